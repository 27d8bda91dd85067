/- Plain law: terms in the place of variables. -/
import Derived.Test.YtaacfmakfkaddaaDoorCxC
set_option linter.unusedVariables false
set_option linter.unusedSimpArgs false
namespace Go.Proofs.YtaacfmakfkaddaaDoor.Ax
open Go Go.Proofs

theorem hasB_in {s : Nat} {x : Int} (h : 0 ≤ x ∧ x ≤ 63) : hasB s x = s.testBit x.toNat := by
  unfold hasB
  rw [decide_eq_true h.1, decide_eq_true (show x < 64 by omega)]; rfl
theorem hasB_range {s : Nat} {x : Int} (h : hasB s x = true) : 0 ≤ x ∧ x ≤ 63 := by
  unfold hasB at h
  simp only [Bool.and_eq_true, decide_eq_true_eq] at h
  omega
/-- A node's free variables: its kids', but what it binds. -/
theorem has_node {k i : Int} {l : List Ex} (hk : ¬ k = 1) (y : Int) : hasB (frE (.mk k i l)) y = (hasB (frL l) y && !hasB (binP k i) y) := by rw [frE, if_neg hk, hasB_dif]
theorem has_bin {k i : Int} (hi : (k = 7 ∨ k = 10) → 0 ≤ i ∧ i ≤ 63) (y : Int) : hasB (binP k i) y = decide ((k = 7 ∨ k = 10) ∧ i = y) := by
  unfold binP
  split
  · rename_i h; rw [hasB_one (hi h)]; simp [h]
  · rename_i h; rw [hasB_zero]; simp [h]
theorem bin_in {k i : Int} {l : List Ex} (ha : allX (.mk k i l) = true) : (k = 7 ∨ k = 10) → 0 ≤ i ∧ i ≤ 63 := fun h => shaped_var ha (.inr h)
theorem has_cons (e : Ex) (l : List Ex) (y : Int) : hasB (frL (e :: l)) y = (hasB (frE e) y || hasB (frL l) y) := by rw [frL, hasB_or]

/-! ### What changes nothing -/
/-! ### What it is made of -/
theorem kidsAre_same {k i : Int} {l m : List Ex} (h : l.map isT = m.map isT) (a b : Int) (t : Bool) : kidsAre (.mk k i l) a b t = kidsAre (.mk k i m) a b t := by
  have h1 : l.length = m.length := by simpa using congrArg List.length h
  have h2 : (l.all fun x => isT x == t) = (m.all fun x => isT x == t) := by
    have e1 : (l.all fun x => isT x == t) = ((l.map isT).all fun y => y == t) := by rw [List.all_map]; rfl
    have e2 : (m.all fun x => isT x == t) = ((m.map isT).all fun y => y == t) := by rw [List.all_map]; rfl
    rw [e1, e2, h]
  show (decide (a ≤ (l.length : Int)) && decide ((l.length : Int) ≤ b) && (l.all fun x => isT x == t)) = (decide (a ≤ (m.length : Int)) && decide ((m.length : Int) ≤ b) && (m.all fun x => isT x == t))
  rw [h2, h1]
def shG (k i : Int) (n : Nat) (f : Int → Int → Bool → Bool) : Bool := decide (0 ≤ i) && decide (i ≤ mostOf k) && (if k = 1 then decide (n = 0) else if k = 2 ∨ k = 3 then f 0 4 true else if k = 4 then f 2 2 true else if k = 5 ∨ k = 7 ∨ k = 10 then f 1 1 false else if k = 6 ∨ k = 8 ∨ k = 9 then f 2 2 false else false)
theorem shaped_G (k i : Int) (l : List Ex) : shapedX (.mk k i l) = shG k i l.length (kidsAre (.mk k i l)) := rfl
theorem shaped_same {k i : Int} {l m : List Ex} (h : l.map isT = m.map isT) : shapedX (.mk k i l) = shapedX (.mk k i m) := by
  have h1 : l.length = m.length := by simpa using congrArg List.length h
  have h2 : kidsAre (.mk k i l) = kidsAre (.mk k i m) := by funext a b t; exact kidsAre_same h a b t
  rw [shaped_G, shaped_G, h1, h2]
/-! ### Nothing caught -/
theorem or_zero {a b : Nat} (h : a ||| b = 0) : a = 0 ∧ b = 0 := by
  constructor
  · apply Nat.eq_of_testBit_eq
    intro i
    have := congrArg (fun n => Nat.testBit n i) h
    simp only [Nat.testBit_or, Nat.zero_testBit, Bool.or_eq_false_iff] at this
    rw [this.1, Nat.zero_testBit]
  · apply Nat.eq_of_testBit_eq
    intro i
    have := congrArg (fun n => Nat.testBit n i) h
    simp only [Nat.testBit_or, Nat.zero_testBit, Bool.or_eq_false_iff] at this
    rw [this.2, Nat.zero_testBit]
/- In a term nothing is caught. -/
section
set_option linter.unusedVariables false
set_option linter.unusedSimpArgs false
open Go Go.Proofs

/-! ### Its free variables -/
theorem fr_bits {s s' : Nat} (h1 : s < 18446744073709551616) (h2 : s' < 18446744073709551616) (h : ∀ y : Int, hasB s y = hasB s' y) : s = s' := by
  apply Nat.eq_of_testBit_eq
  intro i
  by_cases q : i < 64
  · have := h (i : Int)
    rw [hasB_in ⟨by omega, by omega⟩, hasB_in ⟨by omega, by omega⟩] at this
    simpa using this
  · rw [bit_lt h1 (by omega), bit_lt h2 (by omega)]
/-! ### One behind the other -/
/-! ### Taken out again -/
end
end Go.Proofs.YtaacfmakfkaddaaDoor.Ax
