/- The statement ModelValids: for every input the law answers true and leaves its arguments. -/
import Derived.Test.YtaacfmakfkaddaaDxX
import Derived.Test.YtaacfmakfkaddaaByU
import Derived.Test.YtaacfmakfkaddaaRows
set_option linter.unusedVariables false
set_option linter.unusedSimpArgs false
namespace Go.Proofs.Ytaacfmakfkaddaa.ModelValids
open Go Go.ChangeShapes Go.WideShapes Go.ChangeAt Go.RowKit Go.Proofs.Ytaacfmakfkaddaa.Ax

set_option maxRecDepth 100000 in
theorem lifted (os : Os) (started : os.Started) (H : Type) (enc : TypeId × Value → H) :
    ReturnsInHanded {} Try.checked os 4 .any (Rows.modelValidsSpec.pre6 enc Try.prog Try.f4 Rows.modelValidsRow.domain false) (Rows.modelValidsSpec.post enc Try.prog Try.f4 false true false false) := by
  refine returnsInHanded_of_change_sized (C := Try.checked) ownNone started (by kernel_rfl) Try.func4
    (ChangeSpec.witness6 (enc := enc) (C := Try.checked) false ⟨#[], #[.agg #[.int .i64 0, .slice none 0 0, .slice none 0 0], .agg #[.int .i64 0, .int .i64 0, .slice none 0 0]], []⟩ 8 (by kernel_rfl) (by kernel_rfl) (by kernel_rfl) (by kernel_rfl)) ?_
  intro W base args ds gs before hval0 hW hcnd hsz0 _
  have hval : ∀ (j : Nat) t v, Try.f4.params[j]? = some t → args[j]? = some v → Value.okWide Try.prog W .any base t v := hval0
  have hsz : (DataW.weightsEach Try.prog (Try.f4.params.toList ++ Rows.modelValidsSpec.plain.varTypes Try.prog) (ds ++ gs)).all (· ≤ reachBytes) = true := hsz0
  have hW' := hW
  obtain ⟨p, q, hA0, hV, rfl, hfz, hnd⟩ := hW
  have hA : DataW.TrodAll enc Try.prog W 0 (fun _ => true) true Try.f4.params.toList args.toList ds p := hA0
  rw [Try.params4] at hA hval hsz
  obtain ⟨v0, vs0, d0, ds0, p0, q0, hargs, rfl, rfl, h0, r0⟩ := trodAll_cons hA
  obtain ⟨v1, vs1, d1, ds1, p1, q1, rfl, rfl, rfl, h1, r1⟩ := trodAll_cons r0
  obtain ⟨rfl, rfl, rfl⟩ := trodAll_nil r1
  obtain rfl : args = #[v0, v1] := by cases args; simp_all
  obtain ⟨rfl, rfl⟩ := trodVars_none hV
  obtain ⟨a0, hr0, ok0⟩ := opened_W base v0 d0 p0 (hval 0 _ v0 rfl rfl) h0 (fun w hw => of_decide_eq_true (List.all_eq_true.1 hsz w (DataW.weights_mem_each (j := 0) rfl rfl w hw)))
  obtain ⟨a1, hr1, ok1⟩ := opened_E base v1 d1 p1 (hval 1 _ v1 rfl rfl) h1 (fun w hw => of_decide_eq_true (List.all_eq_true.1 hsz w (DataW.weights_mem_each (j := 1) rfl rfl w hw)))
  simp only [List.append_nil] at hW'
  have hlt0 : ∀ x ∈ p0, x.block < W.heap.size := fun x hx => by simpa using hW'.lt x (by simp [hx])
  have hlt1 : ∀ x ∈ p1, x.block < W.heap.size := fun x hx => by simpa using hW'.lt x (by simp [hx])
  refine (calls_of_pure ok_ModelValids (args := [.agg (rWo.enc a0), Ax.enc a1]) (r := .bool true) (by simp [ok0, ok1]) W [v0, v1] (.cons hr0 (.cons hr1 (.nil _)))).mono fun e W' ⟨v, G', he, hrep, hb⟩ => ?_
  subst he
  cases hrep
  exact ⟨_, rfl, post_below (pa := (p0 ++ p1)) (pv := []) hW' (fun _ _ _ => (trodAll_cons_mk (shut_bool Try.underlying4 _) trodAll_mk0)) (fun sp hsp => (trodAll_cons_mk (trod_keep laidOut (by kernel_rfl) (of_decide_eq_true (by kernel_rfl)) h0 hb hlt0 fun x hx => hsp x (by simp [hx])) (trodAll_mk1 (trod_keep laidOut (by kernel_rfl) (of_decide_eq_true (by kernel_rfl)) h1 hb hlt1 fun x hx => hsp x (by simp [hx]))))) (fun _ _ => rfl) (by simp)
    hb (ok_one (by kernel_rfl) rfl (okWide_bool_mk Try.underlying4 _))⟩

theorem over : Rows.modelValidsRow.holds Try.pinned (OpenSpec.ofChange Rows.modelValidsSpec) :=
  OpenClaim.holds_of_wide 4 Try.f4 rfl rfl rfl rfl rfl rfl rfl ⟨rfl, rfl, rfl, rfl, rfl⟩ rfl rfl rfl rfl rfl (by kernel_rfl) Try.func4 (by kernel_rfl)
    (of_decide_eq_true (by kernel_rfl)) (by unfold Func.isWrapper; first | (rw [if_pos (by decide +kernel)]; kernel_rfl) | (rw [if_neg (by decide +kernel)]; exact ⟨rfl, rfl⟩))
    (fun os started H enc _ => lifted os started H enc)
theorem proved : Rows.ModelValidsSaid := over
end Go.Proofs.Ytaacfmakfkaddaa.ModelValids
