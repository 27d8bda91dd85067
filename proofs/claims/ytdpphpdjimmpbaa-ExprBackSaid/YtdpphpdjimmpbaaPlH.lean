/- Plain law: bytes are read. -/
import Derived.Test.YtdpphpdjimmpbaaCxG
import Derived.Test.YtdpphpdjimmpbaaBxP
set_option linter.unusedVariables false
set_option linter.unusedSimpArgs false
namespace Go.Proofs.Ytdpphpdjimmpbaa.Ax
open Go Go.Proofs

/-- Kids are read one behind the other by g: why not; the kids; where it stands; how many were seen. d: it stands where it failed. -/
def rdK (d : Bool) (g : Nat → Nat → Int × Ex × Nat × Nat) : Nat → Nat → Nat → Int × List Ex × Nat × Nat
  | 0, p, s => (0, [], p, s)
  | m + 1, p, s =>
    if (g p s).1 ≠ 0 then ((g p s).1, [], (if d then (g p s).2.2.1 else p), (if d then (g p s).2.2.2 else s))
    else ((rdK d g m (g p s).2.2.1 (g p s).2.2.2).1, (g p s).2.1 :: (rdK d g m (g p s).2.2.1 (g p s).2.2.2).2.1, (rdK d g m (g p s).2.2.1 (g p s).2.2.2).2.2.1, (rdK d g m (g p s).2.2.1 (g p s).2.2.2).2.2.2)
def rdH (d : Bool) (h p s : Nat) (r : Int × List Ex × Nat × Nat) : Int × Ex × Nat × Nat :=
  if r.1 ≠ 0 then (r.1, ex0, r.2.2.1, r.2.2.2) else (0, .mk ((h / 16777216 : Nat) : Int) ((h / 256 % 65536 : Nat) : Int) r.2.1, r.2.2.1, r.2.2.2)
/-- One is read of b at p, s having been seen; f: more than are left. -/
def rdE (d : Bool) (b : List Int) : Nat → Nat → Nat → Int × Ex × Nat × Nat
  | 0, p, s => (20, ex0, p, s)
  | f + 1, p, s =>
    if 1000 ≤ s then (20, ex0, p, s)
    else if (getS (b.drop p) 0 0).2.2 ≠ 0 then ((getS (b.drop p) 0 0).2.2, ex0, p, if d then s + 1 else s)
    else if 4294967295 < (getS (b.drop p) 0 0).1 then (11, ex0, p, if d then s + 1 else s)
    else rdH d (getS (b.drop p) 0 0).1 p s (rdK d (rdE d b f) ((getS (b.drop p) 0 0).1 % 256) (p + (getS (b.drop p) 0 0).2.1) (s + 1))
theorem get_len : ∀ (l : List Int) (i n : Nat), (getS l i n).2.2 = 0 → i < (getS l i n).2.1 ∧ (getS l i n).2.1 ≤ i + l.length
  | [], i, n, h => by rw [getS] at h; cases h
  | c :: l, i, n, h => by
    rw [getS] at h ⊢
    split at h
    · cases h
    · rename_i h1
      rw [if_neg h1]
      split at h
      · rename_i h2
        rw [if_pos h2]
        split at h
        · cases h
        · rename_i h3; rw [if_neg h3]; simp
      · rename_i h2
        rw [if_neg h2]
        have := get_len l (i + 1) _ h
        simp only [List.length_cons]; omega
theorem get_lt : ∀ (l : List Int) (i n : Nat), (getS l i n).2.2 = 0 ∨ (getS l i n).2.2 = 10 ∨ (getS l i n).2.2 = 11
  | [], i, n => by rw [getS]; simp
  | c :: l, i, n => by
    rw [getS]
    split
    · simp
    · split
      · split <;> simp
      · exact get_lt l _ _
/-- Where a reader of kids stands. -/
theorem rdK_in {d : Bool} {b : List Int} {g : Nat → Nat → Int × Ex × Nat × Nat} (hg : ∀ p s, p ≤ b.length → s ≤ 1000 → (g p s).2.2.1 ≤ b.length ∧ s ≤ (g p s).2.2.2 ∧ (g p s).2.2.2 ≤ 1000) :
    ∀ m p s, p ≤ b.length → s ≤ 1000 → (rdK d g m p s).2.2.1 ≤ b.length ∧ s ≤ (rdK d g m p s).2.2.2 ∧ (rdK d g m p s).2.2.2 ≤ 1000
  | 0, p, s, h1, h2 => by rw [rdK]; exact ⟨h1, Nat.le_refl _, h2⟩
  | m + 1, p, s, h1, h2 => by
    obtain ⟨a1, a2, a3⟩ := hg p s h1 h2
    rw [rdK]
    split
    · cases d
      · exact ⟨h1, Nat.le_refl _, h2⟩
      · exact ⟨a1, a2, a3⟩
    · obtain ⟨b1, b2, b3⟩ := rdK_in hg m _ _ a1 a3
      exact ⟨b1, by simp only; omega, b3⟩
theorem rdE_in (d : Bool) (b : List Int) : ∀ f p s, p ≤ b.length → s ≤ 1000 → (rdE d b f p s).2.2.1 ≤ b.length ∧ s ≤ (rdE d b f p s).2.2.2 ∧ (rdE d b f p s).2.2.2 ≤ 1000
  | 0, p, s, h1, h2 => by rw [rdE]; exact ⟨h1, Nat.le_refl _, h2⟩
  | f + 1, p, s, h1, h2 => by
    rw [rdE]
    split
    · exact ⟨h1, Nat.le_refl _, h2⟩
    · rename_i c1
      have e1 : s ≤ (if d = true then s + 1 else s) ∧ (if d = true then s + 1 else s) ≤ 1000 := by split <;> omega
      split
      · exact ⟨h1, e1⟩
      · rename_i c2
        split
        · exact ⟨h1, e1⟩
        · have hl := get_len (b.drop p) 0 0 (by omega)
          rw [List.length_drop] at hl
          obtain ⟨a1, a2, a3⟩ := rdK_in (d := d) (rdE_in d b f) ((getS (b.drop p) 0 0).1 % 256) (p + (getS (b.drop p) 0 0).2.1) (s + 1) (by omega) (by omega)
          unfold rdH
          split
          · exact ⟨a1, by simp only; omega, a3⟩
          · exact ⟨a1, by simp only; omega, a3⟩
/-- The two readers differ only in where they stand when they have failed. -/
theorem rdK_two {g g' : Nat → Nat → Int × Ex × Nat × Nat} (h : ∀ p s, (g p s).1 = (g' p s).1 ∧ ((g p s).1 = 0 → g p s = g' p s)) : ∀ m p s, (rdK true g m p s).1 = (rdK false g' m p s).1 ∧ ((rdK true g m p s).1 = 0 → rdK true g m p s = rdK false g' m p s)
  | 0, p, s => ⟨rfl, fun _ => rfl⟩
  | m + 1, p, s => by
    obtain ⟨h1, h2⟩ := h p s
    rw [rdK, rdK]
    by_cases c : (g p s).1 = 0
    · have e := h2 c
      have i := rdK_two h m (g p s).2.2.1 (g p s).2.2.2
      rw [← e, if_neg (by simpa using c), if_neg (by simpa using c)]
      exact ⟨i.1, fun hz => by have := i.2 hz; rw [this]⟩
    · have c' : (g' p s).1 ≠ 0 := by rw [← h1]; exact c
      rw [if_pos c, if_pos c']
      exact ⟨h1, fun hz => absurd hz c⟩
theorem rdE_two (b : List Int) : ∀ f p s, (rdE true b f p s).1 = (rdE false b f p s).1 ∧ ((rdE true b f p s).1 = 0 → rdE true b f p s = rdE false b f p s)
  | 0, p, s => ⟨rfl, fun h => by rw [rdE] at h; cases h⟩
  | f + 1, p, s => by
    have hk := rdK_two (rdE_two b f) ((getS (b.drop p) 0 0).1 % 256) (p + (getS (b.drop p) 0 0).2.1) (s + 1)
    rw [rdE, rdE]
    split
    · exact ⟨rfl, fun h => rfl⟩
    · split
      · rename_i c; exact ⟨rfl, fun h => absurd h c⟩
      · split
        · exact ⟨rfl, fun h => by cases h⟩
        · unfold rdH
          by_cases c : (rdK true (rdE true b f) ((getS (b.drop p) 0 0).1 % 256) (p + (getS (b.drop p) 0 0).2.1) (s + 1)).1 = 0
          · rw [← hk.2 c, if_neg (by simpa using c)]; exact ⟨rfl, fun _ => rfl⟩
          · have c' : (rdK false (rdE false b f) ((getS (b.drop p) 0 0).1 % 256) (p + (getS (b.drop p) 0 0).2.1) (s + 1)).1 ≠ 0 := by rw [← hk.1]; exact c
            rw [if_pos c, if_pos c']
            exact ⟨hk.1, fun h => absurd h c⟩
theorem getS_lt : ∀ (l : List Int) (i n : Nat), byt l → i ≤ 9 → n < 128 ^ i → (getS l i n).1 < 18446744073709551616
  | [], i, n, _, _, _ => by rw [getS]; omega
  | c :: l, i, n, hb, hi, hn => by
    obtain ⟨h0, h1⟩ := hb c (by simp)
    rw [getS]
    split
    · simp
    · rename_i h2
      split
      · split
        · simp
        · have := sev_add_lt64 (c := c.toNat) hn hi (fun h => by omega)
          unfold sevN at this
          rw [Nat.mod_eq_of_lt (by omega)] at this
          exact this
      · have h3 := sev_add_lt (c := c.toNat) hn
        refine getS_lt l (i + 1) _ (fun x hx => hb x (by simp [hx])) (by omega) ?_
        exact h3
def joinR (l : List Ex) (r : Int × List Ex × Nat × Nat) : Int × List Ex × Nat × Nat := (r.1, l ++ r.2.1, r.2.2.1, r.2.2.2)
end Go.Proofs.Ytdpphpdjimmpbaa.Ax
