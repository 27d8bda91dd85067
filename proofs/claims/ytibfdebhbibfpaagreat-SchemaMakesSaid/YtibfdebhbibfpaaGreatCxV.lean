/- The law SubstRests, walked. -/
import Derived.Test.YtibfdebhbibfpaaGreatCxU
set_option linter.unusedVariables false
set_option linter.unusedSimpArgs false
namespace Go.Proofs.YtibfdebhbibfpaaGreat.Ax
open Go Go.Proofs

theorem var_all {x : Int} (hx : 0 ≤ x ∧ x ≤ 63) : allX (.mk 1 x []) = true := (right_zero (var_right hx)).2.2
theorem var_va (x : Int) : vaE (.mk 1 x []) = pw x.toNat := by
  unfold vaE
  rw [boE, boL, ocE]; simp [binP]
theorem var_fr (x : Int) : frE (.mk 1 x []) = pw x.toNat := by rw [frE]; simp
theorem put_err {a t : Ex} {x : Int} (hx : 0 ≤ x ∧ x ≤ 63) (h1 : rightE a = 0) (h2 : rightE t = 0) (h3 : isT t = true) : putErr a x t = if catE (vaE t) x a = 0 then rightE (psF (sgF x t) a) else 50 := by
  have he := ask_mk hx h1 h2 h3
  unfold putErr
  rw [if_neg (by omega), ffB_eq hx h1 h2 h3]
  by_cases c : catE (vaE t) x a = 0 <;> simp [c]
theorem put_own {a : Ex} {x : Int} (hx : 0 ≤ x ∧ x ≤ 63) (h1 : rightE a = 0) : putErr a x (.mk 1 x []) = 0 ∧ putX a x (.mk 1 x []) = a := by
  have ha := (right_zero h1).2.2
  have h : putErr a x (.mk 1 x []) = 0 := by rw [put_err hx h1 (var_right hx) rfl, var_va, if_pos (cat_self x hx a ha), psF_own ha]; exact h1
  exact ⟨h, by rw [put_good h, psF_own ha]⟩
theorem put_not {a t : Ex} {x : Int} (hx : 0 ≤ x ∧ x ≤ 63) (h1 : rightE a = 0) (h2 : rightE t = 0) (h3 : isT t = true) (hf : hasB (frE a) x = false) : putErr a x t = 0 ∧ putX a x t = a := by
  have ha := (right_zero h1).2.2
  have h : putErr a x t = 0 := by rw [put_err hx h1 h2 h3, if_pos (cat_no hf), psF_not ha hf]; exact h1
  exact ⟨h, by rw [put_good h, psF_not ha hf]⟩
theorem put_all {a t : Ex} {x : Int} (h : putErr a x t = 0) : rightE (putX a x t) = 0 := by
  rw [put_good h]
  unfold putErr at h
  split at h
  · rename_i c; exact absurd h c
  · split at h
    · exact h
    · cases h
@[simp] def gVar : List V → Option V := f1 (kI .i64) fun x => some (enc (.mk 1 x []))
end Go.Proofs.YtibfdebhbibfpaaGreat.Ax
