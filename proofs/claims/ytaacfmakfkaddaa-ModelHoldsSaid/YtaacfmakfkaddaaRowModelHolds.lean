/- The statement ModelHolds: for every input the law answers true and leaves its arguments. -/
import Derived.Test.YtaacfmakfkaddaaDxV
import Derived.Test.YtaacfmakfkaddaaByU
import Derived.Test.YtaacfmakfkaddaaRows
set_option linter.unusedVariables false
set_option linter.unusedSimpArgs false
namespace Go.Proofs.Ytaacfmakfkaddaa.ModelHolds
open Go Go.ChangeShapes Go.WideShapes Go.ChangeAt Go.RowKit Go.Proofs.Ytaacfmakfkaddaa.Ax

set_option maxRecDepth 100000 in
theorem lifted (os : Os) (started : os.Started) (H : Type) (enc : TypeId × Value → H) :
    ReturnsInHanded {} Try.checked os 3 .any (Rows.modelHoldsSpec.pre6 enc Try.prog Try.f3 Rows.modelHoldsRow.domain false) (Rows.modelHoldsSpec.post enc Try.prog Try.f3 false true false false) := by
  refine returnsInHanded_of_change_sized (C := Try.checked) ownNone started (by kernel_rfl) Try.func3
    (ChangeSpec.witness6 (enc := enc) (C := Try.checked) false ⟨#[], #[.agg #[.int .i64 0, .slice none 0 0, .slice none 0 0], .agg #[.int .i64 0, .int .i64 0, .slice none 0 0], .slice none 0 0], []⟩ 8 (by kernel_rfl) (by kernel_rfl) (by kernel_rfl) (by kernel_rfl)) ?_
  intro W base args ds gs before hval0 hW hcnd hsz0 _
  have hval : ∀ (j : Nat) t v, Try.f3.params[j]? = some t → args[j]? = some v → Value.okWide Try.prog W .any base t v := hval0
  have hsz : (DataW.weightsEach Try.prog (Try.f3.params.toList ++ Rows.modelHoldsSpec.plain.varTypes Try.prog) (ds ++ gs)).all (· ≤ reachBytes) = true := hsz0
  have hW' := hW
  obtain ⟨p, q, hA0, hV, rfl, hfz, hnd⟩ := hW
  have hA : DataW.TrodAll enc Try.prog W 0 (fun _ => true) true Try.f3.params.toList args.toList ds p := hA0
  rw [Try.params3] at hA hval hsz
  obtain ⟨v0, vs0, d0, ds0, p0, q0, hargs, rfl, rfl, h0, r0⟩ := trodAll_cons hA
  obtain ⟨v1, vs1, d1, ds1, p1, q1, rfl, rfl, rfl, h1, r1⟩ := trodAll_cons r0
  obtain ⟨v2, vs2, d2, ds2, p2, q2, rfl, rfl, rfl, h2, r2⟩ := trodAll_cons r1
  obtain ⟨rfl, rfl, rfl⟩ := trodAll_nil r2
  obtain rfl : args = #[v0, v1, v2] := by cases args; simp_all
  obtain ⟨rfl, rfl⟩ := trodVars_none hV
  obtain ⟨a0, hr0, ok0⟩ := opened_W base v0 d0 p0 (hval 0 _ v0 rfl rfl) h0 (fun w hw => of_decide_eq_true (List.all_eq_true.1 hsz w (DataW.weights_mem_each (j := 0) rfl rfl w hw)))
  obtain ⟨a1, hr1, ok1⟩ := opened_E base v1 d1 p1 (hval 1 _ v1 rfl rfl) h1 (fun w hw => of_decide_eq_true (List.all_eq_true.1 hsz w (DataW.weights_mem_each (j := 1) rfl rfl w hw)))
  obtain ⟨a2, hr2, ok2⟩ := opened_Is base v2 d2 p2 (hval 2 _ v2 rfl rfl) h2 (fun w hw => of_decide_eq_true (List.all_eq_true.1 hsz w (DataW.weights_mem_each (j := 2) rfl rfl w hw)))
  simp only [List.append_nil] at hW'
  have hlt0 : ∀ x ∈ p0, x.block < W.heap.size := fun x hx => by simpa using hW'.lt x (by simp [hx])
  have hlt1 : ∀ x ∈ p1, x.block < W.heap.size := fun x hx => by simpa using hW'.lt x (by simp [hx])
  have hlt2 : ∀ x ∈ p2, x.block < W.heap.size := fun x hx => by simpa using hW'.lt x (by simp [hx])
  refine (calls_of_pure ok_ModelHolds (args := [.agg (rWo.enc a0), Ax.enc a1, .sl (encI .i64 a2) .no]) (r := .bool true) (by simp [ok0, ok1, ok2]) W [v0, v1, v2] (.cons hr0 (.cons hr1 (.cons hr2 (.nil _))))).mono fun e W' ⟨v, G', he, hrep, hb⟩ => ?_
  subst he
  cases hrep
  exact ⟨_, rfl, post_below (pa := (p0 ++ (p1 ++ p2))) (pv := []) hW' (fun _ _ _ => (trodAll_cons_mk (shut_bool Try.underlying4 _) trodAll_mk0)) (fun sp hsp => (trodAll_cons_mk (trod_keep laidOut (by kernel_rfl) (of_decide_eq_true (by kernel_rfl)) h0 hb hlt0 fun x hx => hsp x (by simp [hx])) (trodAll_cons_mk (trod_keep laidOut (by kernel_rfl) (of_decide_eq_true (by kernel_rfl)) h1 hb hlt1 fun x hx => hsp x (by simp [hx])) (trodAll_mk1 (trod_keep laidOut (by kernel_rfl) (of_decide_eq_true (by kernel_rfl)) h2 hb hlt2 fun x hx => hsp x (by simp [hx])))))) (fun _ _ => rfl) (by simp)
    hb (ok_one (by kernel_rfl) rfl (okWide_bool_mk Try.underlying4 _))⟩

theorem over : Rows.modelHoldsRow.holds Try.pinned (OpenSpec.ofChange Rows.modelHoldsSpec) :=
  OpenClaim.holds_of_wide 3 Try.f3 rfl rfl rfl rfl rfl rfl rfl ⟨rfl, rfl, rfl, rfl, rfl⟩ rfl rfl rfl rfl rfl (by kernel_rfl) Try.func3 (by kernel_rfl)
    (of_decide_eq_true (by kernel_rfl)) (by unfold Func.isWrapper; first | (rw [if_pos (by decide +kernel)]; kernel_rfl) | (rw [if_neg (by decide +kernel)]; exact ⟨rfl, rfl⟩))
    (fun os started H enc _ => lifted os started H enc)
theorem proved : Rows.ModelHoldsSaid := over
end Go.Proofs.Ytaacfmakfkaddaa.ModelHolds
