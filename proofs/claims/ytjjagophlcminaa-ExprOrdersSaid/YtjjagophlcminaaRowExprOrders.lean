/- The statement ExprOrders: from the walked law to the row. -/
import Derived.Test.YtjjagophlcminaaBxG
import Derived.Test.YtjjagophlcminaaAxR
import Derived.Test.YtjjagophlcminaaRows
set_option linter.unusedVariables false
set_option linter.unusedSimpArgs false
namespace Go.Proofs.Ytjjagophlcminaa.ExprOrders
open Go Go.ChangeShapes Go.WideShapes Go.ChangeAt Go.RowKit Go.Proofs.Ytjjagophlcminaa.Ax

theorem own : ownKnob Try.prog.godebug = none := by kernel_rfl
theorem laidOut : laidOutB Try.prog = true := by kernel_rfl
set_option maxRecDepth 100000 in
theorem opened {H : Type} {enc : TypeId × Value → H} {W : World} {base : Nat} {v : Value} {d : DataW H} {p : List MemPlace} (k : Value.okWide Try.prog W .any base 30 v) (h : DataW.Trod enc Try.prog W 0 (fun _ => true) true 30 v d p) : ∃ e : Ex, Rep (gh (cellsOf W)) v (Ax.enc e) := by
  obtain ⟨fu, hf⟩ := h
  obtain ⟨e, he⟩ := open_ex Try.underlying30 Try.underlying28 Try.underlying3 ⟨rfl, rfl⟩ ⟨rfl, rfl⟩ ⟨rfl, rfl⟩ (by kernel_rfl) (by kernel_rfl) (by kernel_rfl) _ _ _ hf
  unfold Value.okWide at k
  rw [Try.underlying30] at k
  obtain ⟨cs, rfl, _⟩ := k
  exact ⟨e, rep_agg he⟩

set_option maxRecDepth 100000 in
theorem lifted (os : Os) (started : os.Started) (H : Type) (enc : TypeId × Value → H) :
    ReturnsInHanded {} Try.checked os 8 .any (Rows.exprOrdersSpec.pre6 enc Try.prog Try.f8 Rows.exprOrdersRow.domain false) (Rows.exprOrdersSpec.post enc Try.prog Try.f8 false true false false) := by
  refine returnsInHanded_of_change (C := Try.checked) own started (by kernel_rfl) Try.func8
    (ChangeSpec.witness6 (enc := enc) (C := Try.checked) false ⟨#[], #[.agg #[.int .i64 0, .int .i64 0, .slice none 0 0], .agg #[.int .i64 0, .int .i64 0, .slice none 0 0], .agg #[.int .i64 0, .int .i64 0, .slice none 0 0]], []⟩ 8 (by kernel_rfl) (by kernel_rfl) (by kernel_rfl) (by kernel_rfl)) ?_
  intro W base args ds gs before hval0 hW hcnd _
  have hval : ∀ (j : Nat) t v, Try.f8.params[j]? = some t → args[j]? = some v → Value.okWide Try.prog W .any base t v := hval0
  have hW' := hW
  obtain ⟨p, q, hA0, hV, rfl, hfz, hnd⟩ := hW
  have hA : DataW.TrodAll enc Try.prog W 0 (fun _ => true) true Try.f8.params.toList args.toList ds p := hA0
  rw [Try.params8] at hA hval
  obtain ⟨v0, vs0, d0, ds0, p0, q0, hargs, rfl, rfl, h0, r0⟩ := trodAll_cons hA
  obtain ⟨v1, vs1, d1, ds1, p1, q1, rfl, rfl, rfl, h1, r1⟩ := trodAll_cons r0
  obtain ⟨v2, vs2, d2, ds2, p2, q2, rfl, rfl, rfl, h2, r2⟩ := trodAll_cons r1
  obtain ⟨rfl, rfl, rfl⟩ := trodAll_nil r2
  obtain rfl : args = #[v0, v1, v2] := by cases args; simp_all
  obtain ⟨rfl, rfl⟩ := trodVars_none hV
  obtain ⟨e0, hr0⟩ := opened (hval 0 _ v0 rfl rfl) h0
  obtain ⟨e1, hr1⟩ := opened (hval 1 _ v1 rfl rfl) h1
  obtain ⟨e2, hr2⟩ := opened (hval 2 _ v2 rfl rfl) h2
  simp only [List.append_nil] at hW'
  have hlt0 : ∀ x ∈ p0, x.block < W.heap.size := fun x hx => by simpa using hW'.lt x (by simp [hx])
  have hlt1 : ∀ x ∈ p1, x.block < W.heap.size := fun x hx => by simpa using hW'.lt x (by simp [hx])
  have hlt2 : ∀ x ∈ p2, x.block < W.heap.size := fun x hx => by simpa using hW'.lt x (by simp [hx])
  refine (calls_of_pure ok_ExprOrders (args := [Ax.enc e0, Ax.enc e1, Ax.enc e2]) (r := .bool true) (by simp) W [v0, v1, v2] (.cons hr0 (.cons hr1 (.cons hr2 (.nil _))))).mono fun e W' ⟨v, G', he, hrep, hb⟩ => ?_
  subst he
  cases hrep
  exact ⟨_, rfl, post_below (pa := (p0 ++ (p1 ++ p2))) (pv := []) hW' (fun _ _ _ => (trodAll_cons_mk (shut_bool Try.underlying4 _) trodAll_mk0)) (fun sp hsp => (trodAll_cons_mk (trod_keep laidOut (by kernel_rfl) (of_decide_eq_true (by kernel_rfl)) h0 hb hlt0 fun x hx => hsp x (by simp [hx])) (trodAll_cons_mk (trod_keep laidOut (by kernel_rfl) (of_decide_eq_true (by kernel_rfl)) h1 hb hlt1 fun x hx => hsp x (by simp [hx])) (trodAll_mk1 (trod_keep laidOut (by kernel_rfl) (of_decide_eq_true (by kernel_rfl)) h2 hb hlt2 fun x hx => hsp x (by simp [hx])))))) (fun _ _ => rfl) (by simp)
    hb (ok_one (by kernel_rfl) rfl (okWide_bool_mk Try.underlying4 _))⟩

theorem over : Rows.exprOrdersRow.holds Try.pinned (OpenSpec.ofChange Rows.exprOrdersSpec) :=
  OpenClaim.holds_of_wide 8 Try.f8 rfl rfl rfl rfl rfl rfl rfl ⟨rfl, rfl, rfl, rfl, rfl⟩ rfl rfl rfl rfl rfl (by kernel_rfl) Try.func8 (by kernel_rfl)
    (of_decide_eq_true (by kernel_rfl)) (by unfold Func.isWrapper; first | (rw [if_pos (by decide +kernel)]; kernel_rfl) | (rw [if_neg (by decide +kernel)]; exact ⟨rfl, rfl⟩))
    (fun os started H enc _ => lifted os started H enc)
theorem proved : Rows.ExprOrdersSaid := over
end Go.Proofs.Ytjjagophlcminaa.ExprOrders
