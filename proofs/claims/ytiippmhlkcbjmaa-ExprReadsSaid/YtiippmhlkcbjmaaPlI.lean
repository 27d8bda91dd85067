/- Plain law: what is read is written as these bytes. -/
import Derived.Test.YtiippmhlkcbjmaaPlH
set_option linter.unusedVariables false
set_option linter.unusedSimpArgs false
namespace Go.Proofs.Ytiippmhlkcbjmaa.Ax
open Go Go.Proofs

theorem get_sev : ∀ (l : List Int) (i n : Nat), byt l → (getS l i n).2.2 = 0 → ∃ m, (getS l i n).1 = n + m * 128 ^ i ∧ (0 < i → 1 ≤ m) ∧ sev m = l.take ((getS l i n).2.1 - i)
  | [], i, n, _, h => by rw [getS] at h; cases h
  | c :: l, i, n, hb, h => by
    obtain ⟨h0, h1⟩ := hb c (by simp)
    rw [getS] at h ⊢
    split at h
    · cases h
    · rename_i q1
      rw [if_neg q1]
      split at h
      · rename_i q2
        rw [if_pos q2]
        split at h
        · cases h
        · rename_i q3
          rw [if_neg q3]
          refine ⟨c.toNat, rfl, fun hi => by have : ¬ c = 0 := fun e => q3 ⟨e, hi⟩; omega, ?_⟩
          rw [sev_lt (by omega), show i + 1 - i = 1 by omega]
          simp; omega
      · rename_i q2
        rw [if_neg q2]
        obtain ⟨m, e1, e2, e3⟩ := get_sev l (i + 1) _ (fun x hx => hb x (by simp [hx])) h
        have hl := (get_len l (i + 1) _ h).1
        have hm := e2 (by omega)
        refine ⟨c.toNat % 128 + 128 * m, ?_, fun _ => by omega, ?_⟩
        · rw [e1, Nat.pow_succ, Nat.add_mul, Nat.add_assoc]
          congr 2
          rw [Nat.mul_comm (128 ^ i) 128, Nat.mul_comm 128 m, Nat.mul_assoc]
        · rw [sev_ge (by omega), show (c.toNat % 128 + 128 * m) / 128 = m by omega, e3]
          obtain ⟨t, ht⟩ : ∃ t, (getS l (i + 1) (n + c.toNat % 128 * 128 ^ i)).2.1 = t + (i + 1) := ⟨_, (Nat.sub_add_cancel (Nat.le_of_lt hl)).symm⟩
          rw [ht, show t + (i + 1) - (i + 1) = t by omega, show t + (i + 1) - i = t + 1 by omega, List.take_succ_cons]
          congr 1
          omega
theorem take_two (b : List Int) {p q r : Nat} (h1 : p ≤ q) (h2 : q ≤ r) : (b.drop p).take (q - p) ++ (b.drop q).take (r - q) = (b.drop p).take (r - p) := by
  obtain ⟨x, rfl⟩ := Nat.exists_eq_add_of_le h1
  obtain ⟨y, rfl⟩ := Nat.exists_eq_add_of_le h2
  rw [show p + x - p = x by omega, show p + x + y - (p + x) = y by omega, show p + x + y - p = x + y by omega, List.take_add, List.drop_drop]
theorem rdK_back {d : Bool} {b : List Int} {g : Nat → Nat → Int × Ex × Nat × Nat} (hg : ∀ p s, (g p s).1 = 0 → p ≤ (g p s).2.2.1 ∧ bytE (g p s).2.1 = (b.drop p).take ((g p s).2.2.1 - p)) :
    ∀ m p s, (rdK d g m p s).1 = 0 → p ≤ (rdK d g m p s).2.2.1 ∧ (rdK d g m p s).2.1.length = m ∧ bytL (rdK d g m p s).2.1 = (b.drop p).take ((rdK d g m p s).2.2.1 - p)
  | 0, p, s, _ => by rw [rdK]; simp [bytL]
  | m + 1, p, s, h => by
    rw [rdK] at h ⊢
    split at h
    · rename_i c; exact absurd h c
    · rename_i c
      rw [if_neg c]
      obtain ⟨a1, a2⟩ := hg p s (by simpa using c)
      obtain ⟨b1, b2, b3⟩ := rdK_back hg m _ _ h
      refine ⟨Nat.le_trans a1 b1, by simp [b2], ?_⟩
      simp only [bytL]
      rw [a2, b3, take_two b a1 b1]
theorem head_nat (hd : Nat) : hd / 16777216 * 16777216 + hd / 256 % 65536 * 256 + hd % 256 = hd := by omega
theorem mk_back {hd A B : Nat} {L : List Ex} (h : A * 16777216 + B * 256 + L.length = hd) : bytE (.mk (A : Int) (B : Int) L) = sev hd ++ bytL L := by
  rw [bytE]
  congr 2
theorem rdE_back (d : Bool) (b : List Int) (hb : byt b) : ∀ f p s, (rdE d b f p s).1 = 0 → p ≤ (rdE d b f p s).2.2.1 ∧ bytE (rdE d b f p s).2.1 = (b.drop p).take ((rdE d b f p s).2.2.1 - p)
  | 0, p, s, h => by rw [rdE] at h; cases h
  | f + 1, p, s, h => by
    rw [rdE] at h ⊢
    split at h
    · cases h
    · rename_i c1
      rw [if_neg c1]
      split at h
      · rename_i c2; exact absurd h c2
      · rename_i c2
        rw [if_neg c2]
        split at h
        · cases h
        · rename_i c3
          rw [if_neg c3]
          have hz : (getS (b.drop p) 0 0).2.2 = 0 := by omega
          obtain ⟨m, e1, _, e3⟩ := get_sev (b.drop p) 0 0 (fun c hc => hb c (List.mem_of_mem_drop hc)) hz
          have hl := (get_len (b.drop p) 0 0 hz)
          have em : m = (getS (b.drop p) 0 0).1 := by rw [e1]; simp
          generalize getS (b.drop p) 0 0 = G at *
          obtain ⟨hd, k, e⟩ := G
          simp only [Nat.sub_zero] at *
          unfold rdH at h ⊢
          split at h
          · rename_i c4; exact absurd h c4
          · rename_i c4
            rw [if_neg c4]
            obtain ⟨a1, a2, a3⟩ := rdK_back (d := d) (rdE_back d b hb f) (hd % 256) (p + k) (s + 1) (by simpa using c4)
            refine ⟨by simp only; omega, ?_⟩
            simp only
            have hmk : bytE (.mk ((hd / 16777216 : Nat) : Int) ((hd / 256 % 65536 : Nat) : Int) (rdK d (rdE d b f) (hd % 256) (p + k) (s + 1)).2.1) = sev hd ++ bytL (rdK d (rdE d b f) (hd % 256) (p + k) (s + 1)).2.1 := mk_back ((congrArg (fun z => hd / 16777216 * 16777216 + hd / 256 % 65536 * 256 + z) a2).trans (head_nat hd))
            rw [hmk, a3, ← (congrArg sev em), e3]
            have := take_two b (p := p) (q := p + k) (Nat.le_add_right _ _) a1
            rw [show p + k - p = k by omega] at this
            exact this
end Go.Proofs.Ytiippmhlkcbjmaa.Ax
