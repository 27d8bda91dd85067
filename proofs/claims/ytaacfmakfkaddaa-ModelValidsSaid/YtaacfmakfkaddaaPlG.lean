/- Plain law: what is caught. -/
import Derived.Test.YtaacfmakfkaddaaPlE
import Derived.Test.YtaacfmakfkaddaaBxP
set_option linter.unusedVariables false
set_option linter.unusedSimpArgs false
namespace Go.Proofs.Ytaacfmakfkaddaa.Ax
section
open Go Go.Proofs

theorem kids_none {e : Ex} (h : allX e = true) (hk : e.k = 1) : e.kids = [] := by
  rw [allX_eq, Bool.and_eq_true] at h
  have h1 := h.1
  unfold shapedX at h1
  rw [Bool.and_eq_true, if_pos hk] at h1
  exact List.eq_nil_of_length_eq_zero (of_decide_eq_true h1.2)
mutual
/-- What is caught. -/
def catE (own : Nat) (x : Int) : Ex → Nat
  | .mk k i l => if hasB (frE (.mk k i l)) x = true then (own &&& binP k i) ||| catL own x l else 0
def catL (own : Nat) (x : Int) : List Ex → Nat
  | [] => 0
  | e :: l => catE own x e ||| catL own x l
end
end
section
open Go Go.Proofs

theorem kid_sorts {e : Ex} (h : allX e = true) (hk : 5 ≤ e.k) : ∀ x ∈ e.kids, isT x = false := by
  rw [allX_eq, Bool.and_eq_true] at h
  have h1 := h.1
  unfold shapedX kidsAre at h1
  rw [Bool.and_eq_true, if_neg (by omega), if_neg (by omega), if_neg (by omega)] at h1
  have h2 := h1.2
  intro x hx
  split at h2
  · simp only [Bool.and_eq_true, List.all_eq_true, beq_iff_eq] at h2; exact h2.2 x hx
  · split at h2
    · simp only [Bool.and_eq_true, List.all_eq_true, beq_iff_eq] at h2; exact h2.2 x hx
    · cases h2
structure Unf (e : Ex) : Prop where
  c : cntE (unfE e) ≤ 3 * cntE e
  d : depE (unfE e) ≤ 3 * depE e
  a : allX (unfE e) = true
  t : isT (unfE e) = isT e
  f : frE (unfE e) = frE e
end
end Go.Proofs.Ytaacfmakfkaddaa.Ax
