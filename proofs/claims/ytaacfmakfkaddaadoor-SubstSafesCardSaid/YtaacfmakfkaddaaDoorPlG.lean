/- Plain law: what is caught. -/
import Derived.Test.YtaacfmakfkaddaaDoorPlE
import Derived.Test.YtaacfmakfkaddaaDoorBxP
set_option linter.unusedVariables false
set_option linter.unusedSimpArgs false
namespace Go.Proofs.YtaacfmakfkaddaaDoor.Ax
section
open Go Go.Proofs

theorem kids_none {e : Ex} (h : allX e = true) (hk : e.k = 1) : e.kids = [] := by
  rw [allX_eq, Bool.and_eq_true] at h
  have h1 := h.1
  unfold shapedX at h1
  rw [Bool.and_eq_true, if_pos hk] at h1
  exact List.eq_nil_of_length_eq_zero (of_decide_eq_true h1.2)
theorem hasB_or (a b : Nat) (x : Int) : hasB (a ||| b) x = (hasB a x || hasB b x) := by
  unfold hasB
  rw [Nat.testBit_or]
  cases decide (0 ≤ x) <;> cases decide (x < 64) <;> simp
theorem hasB_dif (a b : Nat) (x : Int) : hasB (dif a b) x = (hasB a x && !hasB b x) := by
  unfold hasB
  rw [dif_bit]
  cases decide (0 ≤ x) <;> cases decide (x < 64) <;> simp
theorem hasB_zero (x : Int) : hasB 0 x = false := by unfold hasB; simp
theorem hasB_one {x y : Int} (h : 0 ≤ y ∧ y ≤ 63) : hasB (pw y.toNat) x = decide (y = x) := by
  unfold hasB
  rw [pw_bit]
  by_cases h1 : y = x
  · subst h1; simp; omega
  · simp only [h1, decide_false]
    by_cases h2 : 0 ≤ x
    · have : ¬ y.toNat = x.toNat := by omega
      simp [this]
    · simp [h2]
mutual
/-- What is caught. -/
def catE (own : Nat) (x : Int) : Ex → Nat
  | .mk k i l => if hasB (frE (.mk k i l)) x = true then (own &&& binP k i) ||| catL own x l else 0
def catL (own : Nat) (x : Int) : List Ex → Nat
  | [] => 0
  | e :: l => catE own x e ||| catL own x l
end
end
section
open Go Go.Proofs

structure Unf (e : Ex) : Prop where
  c : cntE (unfE e) ≤ 3 * cntE e
  d : depE (unfE e) ≤ 3 * depE e
  a : allX (unfE e) = true
  t : isT (unfE e) = isT e
  f : frE (unfE e) = frE e
theorem dif_zero (a : Nat) : dif a 0 = a := by unfold dif; simp
end
end Go.Proofs.YtaacfmakfkaddaaDoor.Ax
