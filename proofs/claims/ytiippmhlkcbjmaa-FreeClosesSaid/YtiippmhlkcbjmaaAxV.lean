/- Words: sets of bits, numbers in sevens; functions that answer a fresh row. -/
import Derived.Test.YtiippmhlkcbjmaaAxQ
set_option linter.unusedVariables false
set_option linter.unusedSimpArgs false
namespace Go.Proofs.Ytiippmhlkcbjmaa.Ax
open Go

theorem fin_own {P : Program} {fn : Func} {σ : St} {q : Path} {els : List (List V)} {s : Nat}
    (h : ∃ t, (resAll P σ fn.results.toList).pre ∧ (resAll P σ fn.results.toList).v = .sl els (.own t s) ∧ σ.K t = true ∧ q <:+ t) :
    fin P fn (fun x M' K' => M' = noM ∧ ∃ t, x = .sl els (.own t s) ∧ q <:+ t ∧ K' = upd noK t true) .ret σ := by
  obtain ⟨t, h1, h2, h3, h4⟩ := h
  refine ⟨h1, noM, upd noK t true, fun id hid => absurd rfl hid, fun u hu => ?_, .inl ⟨rfl, t, h2, h4, rfl⟩⟩
  by_cases e : u = t
  · subst e; exact h3
  · rw [upd_ne _ _ e] at hu; cases hu
@[simp] theorem suf2 (q : Path) (c d : Nat) : (q <:+ c :: d :: q) = True := eq_true ⟨[c, d], rfl⟩

theorem wrapU {k : IntKind} (hk : k.signed = false) {n : Nat} (h : n < 2 ^ k.bits) : k.wrap (n : Int) = n := by
  unfold IntKind.wrap
  simp only [hk, Bool.false_and, Bool.false_eq_true, if_false]
  exact Int.emod_eq_of_lt (by omega) (by exact_mod_cast h)
theorem wrapU_mod {k : IntKind} (hk : k.signed = false) (n : Nat) : k.wrap (n : Int) = ((n % 2 ^ k.bits : Nat) : Int) := by
  unfold IntKind.wrap
  simp only [hk, Bool.false_and, Bool.false_eq_true, if_false]
  simp
theorem bv_nat {w n : Nat} (h : n < 2 ^ w) : (BitVec.ofInt w (n : Int)).toNat = n := by
  rw [BitVec.ofInt_natCast, BitVec.toNat_ofNat, Nat.mod_eq_of_lt h]
theorem bits_or {k : IntKind} (hk : k.signed = false) {a b : Nat} (ha : a < 2 ^ k.bits) (hb : b < 2 ^ k.bits) : bits .or k (a : Int) (b : Int) = ((a ||| b : Nat) : Int) := by
  unfold bits
  simp only [BitVec.toNat_or, bv_nat ha, bv_nat hb]
  exact wrapU hk (Nat.or_lt_two_pow ha hb)
theorem bits_and {k : IntKind} (hk : k.signed = false) {a b : Nat} (ha : a < 2 ^ k.bits) (hb : b < 2 ^ k.bits) : bits .and k (a : Int) (b : Int) = ((a &&& b : Nat) : Int) := by
  unfold bits
  simp only [BitVec.toNat_and, bv_nat ha, bv_nat hb]
  exact wrapU hk (Nat.and_lt_two_pow _ hb)
/-- a without b. -/
def ndiff (a b : Nat) : Nat := a &&& (18446744073709551616 - (b + 1))
theorem bits_andNot {a b : Nat} (ha : a < 18446744073709551616) (hb : b < 18446744073709551616) : bits .andNot .u64 (a : Int) (b : Int) = ((ndiff a b : Nat) : Int) := by
  unfold bits ndiff
  simp only [BitVec.toNat_and, BitVec.toNat_not]
  rw [bv_nat (w := IntKind.bits .u64) (by simpa [IntKind.bits] using ha), bv_nat (w := IntKind.bits .u64) (by simpa [IntKind.bits] using hb)]
  have e : 2 ^ IntKind.bits .u64 - 1 - b = 18446744073709551616 - (b + 1) := by
    simp only [IntKind.bits]
    omega
  rw [e]
  exact wrapU rfl (Nat.and_lt_two_pow _ (by simp [IntKind.bits]; omega))
theorem ndiff_bit {a b : Nat} (ha : a < 18446744073709551616) (hb : b < 18446744073709551616) (i : Nat) : (ndiff a b).testBit i = (a.testBit i && !b.testBit i) := by
  unfold ndiff
  rw [Nat.testBit_and, show (18446744073709551616 : Nat) = 2 ^ 64 by decide, Nat.testBit_two_pow_sub_succ (by simpa using hb)]
  by_cases h : i < 64
  · simp [h]
  · have : a.testBit i = false := Nat.testBit_lt_two_pow (Nat.lt_of_lt_of_le ha (by rw [show (18446744073709551616 : Nat) = 2 ^ 64 by decide]; exact Nat.pow_le_pow_right (by omega) (by omega)))
    simp [this]

/-! ### Numbers in sevens -/
def sev (n : Nat) : List Int := if 128 ≤ n then ((n : Int) % 128 + 128) :: sev (n / 128) else [(n : Int)]
termination_by n
decreasing_by omega
theorem sev_ge {n : Nat} (h : 128 ≤ n) : sev n = ((n : Int) % 128 + 128) :: sev (n / 128) := by rw [sev, if_pos h]
theorem sev_lt {n : Nat} (h : n < 128) : sev n = [(n : Int)] := by rw [sev, if_neg (by omega)]
theorem sev_len : ∀ (k n : Nat), n < 128 ^ (k + 1) → (sev n).length ≤ k + 1
  | 0, n, h => by rw [sev_lt (by simpa using h)]; simp
  | k + 1, n, h => by
    by_cases h1 : 128 ≤ n
    · rw [sev_ge h1]
      have := sev_len k (n / 128) (Nat.div_lt_of_lt_mul (by rw [Nat.pow_succ, Nat.mul_comm] at h; exact h))
      simp; omega
    · rw [sev_lt (by omega)]; simp
theorem sev_len64 {n : Nat} (h : n < 18446744073709551616) : (sev n).length ≤ 10 := sev_len 9 n (Nat.lt_of_lt_of_le h (by decide))
theorem or128 : ∀ x, x < 256 → x ||| 128 = x % 128 + 128 := by decide +kernel
theorem or_seven (m : Nat) : bits .or .u8 (IntKind.u8.wrap (m : Int)) 128 = (m : Int) % 128 + 128 := by
  rw [wrapU_mod rfl, show (128 : Int) = ((128 : Nat) : Int) from rfl, bits_or rfl (by exact Nat.mod_lt _ (by decide)) (by decide), or128 _ (by exact Nat.mod_lt _ (by decide))]
  have : (2 ^ IntKind.bits .u8 : Nat) = 256 := rfl
  rw [this]; omega
end Go.Proofs.Ytiippmhlkcbjmaa.Ax
