/- The statement ExprRights: from the walked law to the row. -/
import Derived.Test.YtjjagophlcminaaBxD
import Derived.Test.YtjjagophlcminaaAxR
import Derived.Test.YtjjagophlcminaaRows
set_option linter.unusedVariables false
set_option linter.unusedSimpArgs false
namespace Go.Proofs.Ytjjagophlcminaa.ExprRights
open Go Go.ChangeShapes Go.WideShapes Go.ChangeAt Go.RowKit Go.Proofs.Ytjjagophlcminaa.Ax

theorem own : ownKnob Try.prog.godebug = none := by kernel_rfl
theorem laidOut : laidOutB Try.prog = true := by kernel_rfl

set_option maxRecDepth 100000 in
theorem lifted (os : Os) (started : os.Started) (H : Type) (enc : TypeId × Value → H) :
    ReturnsInHanded {} Try.checked os 4 .any (Rows.exprRightsSpec.pre6 enc Try.prog Try.f4 Rows.exprRightsRow.domain false) (Rows.exprRightsSpec.post enc Try.prog Try.f4 false true false false) := by
  refine returnsInHanded_of_change (C := Try.checked) own started (by kernel_rfl) Try.func4
    (ChangeSpec.witness6 (enc := enc) (C := Try.checked) false ⟨#[], #[.agg #[.int .i64 0, .int .i64 0, .slice none 0 0]], []⟩ 8 (by kernel_rfl) (by kernel_rfl) (by kernel_rfl) (by kernel_rfl)) ?_
  intro W base args ds gs before hval0 hW hcnd _
  have hval : ∀ (j : Nat) t v, Try.f4.params[j]? = some t → args[j]? = some v → Value.okWide Try.prog W .any base t v := hval0
  have hW' := hW
  obtain ⟨p, q, hA0, hV, rfl, hfz, hnd⟩ := hW
  have hA : DataW.TrodAll enc Try.prog W 0 (fun _ => true) true Try.f4.params.toList args.toList ds p := hA0
  rw [Try.params4] at hA hval
  obtain ⟨v0, vs0, d0, ds0, p0, q0, hargs, rfl, rfl, h0, r0⟩ := trodAll_cons hA
  obtain ⟨rfl, rfl, rfl⟩ := trodAll_nil r0
  obtain rfl : args = #[v0] := by cases args; simp_all
  obtain ⟨rfl, rfl⟩ := trodVars_none hV
  have k0 := hval 0 30 v0 rfl rfl
  obtain ⟨e0, hr0⟩ : ∃ e : Ex, Rep (gh (cellsOf W)) v0 (Ax.enc e) := by
    obtain ⟨fu, hf⟩ := h0
    obtain ⟨e, he⟩ := open_ex Try.underlying30 Try.underlying28 Try.underlying3 ⟨rfl, rfl⟩ ⟨rfl, rfl⟩ ⟨rfl, rfl⟩ (by kernel_rfl) (by kernel_rfl) (by kernel_rfl) _ _ _ hf
    unfold Value.okWide at k0
    rw [Try.underlying30] at k0
    obtain ⟨cs, rfl, _⟩ := k0
    exact ⟨e, rep_agg he⟩
  have hlt : ∀ x ∈ p0, x.block < W.heap.size := fun x hx => by simpa using hW'.lt x (by simpa using hx)
  simp only [List.append_nil] at hW'
  refine (calls_of_pure ok_ExprRights (args := [Ax.enc e0]) (r := .bool true) (by simp) W [v0] (.cons hr0 (.nil _))).mono fun e W' ⟨v, G', he, hrep, hb⟩ => ?_
  subst he
  cases hrep
  exact ⟨_, rfl, post_below (pa := p0) (pv := []) hW' (fun _ _ _ => (trodAll_cons_mk (shut_bool Try.underlying4 _) trodAll_mk0)) (fun sp hsp => trodAll_mk1 (trod_keep laidOut (by kernel_rfl) (of_decide_eq_true (by kernel_rfl)) h0 hb hlt hsp)) (fun _ _ => rfl) (by simp)
    hb (ok_one (by kernel_rfl) rfl (okWide_bool_mk Try.underlying4 _))⟩

theorem over : Rows.exprRightsRow.holds Try.pinned (OpenSpec.ofChange Rows.exprRightsSpec) :=
  OpenClaim.holds_of_wide 4 Try.f4 rfl rfl rfl rfl rfl rfl rfl ⟨rfl, rfl, rfl, rfl, rfl⟩ rfl rfl rfl rfl rfl (by kernel_rfl) Try.func4 (by kernel_rfl)
    (of_decide_eq_true (by kernel_rfl)) (by unfold Func.isWrapper; first | (rw [if_pos (by decide +kernel)]; kernel_rfl) | (rw [if_neg (by decide +kernel)]; exact ⟨rfl, rfl⟩))
    (fun os started H enc _ => lifted os started H enc)
theorem proved : Rows.ExprRightsSaid := over
end Go.Proofs.Ytjjagophlcminaa.ExprRights
