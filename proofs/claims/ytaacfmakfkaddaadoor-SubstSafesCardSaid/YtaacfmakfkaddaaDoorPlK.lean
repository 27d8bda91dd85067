/- Plain law: the common form of what is alike. -/
import Derived.Test.YtaacfmakfkaddaaDoorPlC
import Derived.Test.YtaacfmakfkaddaaDoorPlE
set_option linter.unusedVariables false
set_option linter.unusedSimpArgs false
namespace Go.Proofs.YtaacfmakfkaddaaDoor.Ax
open Go Go.Proofs

/-! ### Lists whose members may fail -/
def optL {α β : Type} (f : α → Option β) : List α → Option (List β)
  | [] => some []
  | a :: l => (f a).bind fun b => (optL f l).map (b :: ·)
theorem optL_take {α β : Type} (f : α → Option β) : ∀ (l : List α) (j : Nat) (h : j < l.length) {L : List β} {y : β}, optL f (l.take j) = some L → f l[j] = some y → optL f (l.take (j + 1)) = some (L ++ [y])
  | a :: l, 0, h, L, y, h1, h2 => by
    simp [optL] at h1 h2 ⊢
    subst h1
    rw [h2]; rfl
  | a :: l, j + 1, h, L, y, h1, h2 => by
    simp only [List.take_succ_cons, optL] at h1 ⊢
    obtain ⟨b, hb, h1⟩ := Option.bind_eq_some_iff.1 h1
    obtain ⟨M, hM, rfl⟩ := Option.map_eq_some_iff.1 h1
    rw [hb, optL_take f l j (by simpa using h) hM (by simpa using h2)]; rfl
theorem optL_none {α β : Type} (f : α → Option β) : ∀ (l : List α) (j : Nat) (h : j < l.length), f l[j] = none → optL f l = none
  | a :: l, 0, h, h2 => by simp at h2; simp [optL, h2]
  | a :: l, j + 1, h, h2 => by
    simp only [optL]
    rw [optL_none f l j (by simpa using h) (by simpa using h2)]
    cases f a <;> rfl
theorem optL_cons {α β : Type} {f : α → Option β} {a : α} {l : List α} {L : List β} (h : optL f (a :: l) = some L) : ∃ b M, f a = some b ∧ optL f l = some M ∧ L = b :: M := by
  simp only [optL] at h
  obtain ⟨b, hb, h1⟩ := Option.bind_eq_some_iff.1 h
  obtain ⟨M, hM, rfl⟩ := Option.map_eq_some_iff.1 h1
  exact ⟨b, M, hb, hM, rfl⟩

/-! ### The least number that is none of a set's -/
def lsF (s : Nat) : Nat → Nat → Int
  | 0, _ => -1
  | f + 1, z => if s.testBit z = true then lsF s f (z + 1) else z
def leastN (s : Nat) : Int := lsF s 64 0
theorem lsF_spec (s : Nat) : ∀ f z, (lsF s f z = -1 ∧ ∀ i, z ≤ i → i < z + f → s.testBit i = true) ∨ ∃ k, lsF s f z = (k : Nat) ∧ z ≤ k ∧ k < z + f ∧ s.testBit k = false ∧ ∀ i, z ≤ i → i < k → s.testBit i = true
  | 0, z => .inl ⟨rfl, fun i h1 h2 => by omega⟩
  | f + 1, z => by
    rw [lsF]
    cases h : s.testBit z with
    | false => exact .inr ⟨z, by simp, Nat.le_refl _, by omega, h, fun i h1 h2 => by omega⟩
    | true =>
      rw [if_pos rfl]
      rcases lsF_spec s f (z + 1) with ⟨h1, h2⟩ | ⟨k, h1, h2, h3, h4, h5⟩
      · refine .inl ⟨h1, fun i a b => ?_⟩
        by_cases e : i = z
        · rw [e]; exact h
        · exact h2 i (by omega) (by omega)
      · refine .inr ⟨k, h1, by omega, by omega, h4, fun i a b => ?_⟩
        by_cases e : i = z
        · rw [e]; exact h
        · exact h5 i (by omega) b
theorem least_spec (s : Nat) : (leastN s = -1 ∧ ∀ i, i < 64 → s.testBit i = true) ∨ ∃ k, leastN s = (k : Nat) ∧ k < 64 ∧ s.testBit k = false ∧ ∀ i, i < k → s.testBit i = true := by
  rcases lsF_spec s 64 0 with ⟨h1, h2⟩ | ⟨k, h1, h2, h3, h4, h5⟩
  · exact .inl ⟨h1, fun i hi => h2 i (by omega) (by omega)⟩
  · exact .inr ⟨k, h1, by omega, h4, fun i hi => h5 i (by omega) hi⟩
theorem least_range (s : Nat) : -1 ≤ leastN s ∧ leastN s ≤ 63 := by
  rcases least_spec s with ⟨h, _⟩ | ⟨k, h, h2, _⟩ <;> omega
/-! ### The common form -/
mutual
/-- By what variables are called now, and what is used. -/
def pcE : Ex → List Int → Nat → Option Ex
  | .mk k i l, x, u => if k = 7 ∨ k = 10 then (if leastN u < 0 then none else (pcL l (x.set i.toNat (leastN u + 1)) (withN u (leastN u))).map (.mk k (leastN u)))
    else (pcL l x u).map (.mk k (if k = 1 ∧ 0 < x.getD i.toNat 0 then x.getD i.toNat 0 - 1 else i))
def pcL : List Ex → List Int → Nat → Option (List Ex)
  | [], _, _ => some []
  | e :: l, x, u => (pcE e x u).bind fun y => (pcL l x u).map (y :: ·)
end
end Go.Proofs.YtaacfmakfkaddaaDoor.Ax
