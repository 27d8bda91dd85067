/- Contracts: words: packed heads, numbers in sevens. -/
import Derived.Test.YtibfdebhbibfpaaGreatAxY
import Derived.Test.YtibfdebhbibfpaaGreatAxT
import Derived.Test.YtibfdebhbibfpaaGreatBxD
set_option linter.unusedVariables false
set_option linter.unusedSimpArgs false
namespace Go.Proofs.YtibfdebhbibfpaaGreat.Ax
section
open Go Go.Proofs

theorem u8_small {m : Nat} (h : m < 256) : IntKind.u8.wrap (m : Int) = m := wrapU rfl (by simpa [IntKind.bits] using h)
def isU64 (n : Int) : Prop := 0 ≤ n ∧ n < 18446744073709551616
noncomputable instance (n : Int) : Decidable (isU64 n) := Classical.propDecidable _
@[simp] noncomputable def gPut : List V → Option V := f1 (kI .u64) fun n => if isU64 n then some (.sl (encI .u8 (sev n.toNat)) .no) else none
@[simp] noncomputable def gPutO : List V → Option (Nat × List (List V)) := f1 (kI .u64) fun n => if isU64 n then some (1, encI .u8 (sev n.toNat)) else none
theorem u64_of {n : Int} (h : isU64 n) : ∃ m : Nat, n = m ∧ m < 18446744073709551616 := by
  obtain ⟨h1, h2⟩ := h
  obtain ⟨m, rfl⟩ := Int.eq_ofNat_of_zero_le h1
  exact ⟨m, rfl, by omega⟩
theorem wrap64u {n : Nat} (h : n < 18446744073709551616) : IntKind.u64.wrap (n : Int) = n := wrapU rfl (by simpa [IntKind.bits] using h)
theorem fdiv128 (m : Nat) : (m : Int).fdiv (2 ^ min 7 IntKind.u64.bits) = (m : Int) / 128 := by rw [Int.fdiv_eq_ediv_of_nonneg _ (by decide)]; rfl
theorem u8_nat (m : Nat) : IntKind.u8.wrap (m : Int) = ((m % 256 : Nat) : Int) := by rw [wrapU_mod rfl]; rfl
theorem rem_seven (m : Nat) : IntKind.u8.wrap (IntKind.u64.wrap ((m : Int).tmod 128 + 128)) = (m : Int) % 128 + 128 := by
  have e : (m : Int).tmod 128 = ((m % 128 : Nat) : Int) := rfl
  rw [e, show ((m % 128 : Nat) : Int) + 128 = ((m % 128 + 128 : Nat) : Int) from rfl, wrap64u (by omega), u8_small (by omega)]
  rfl
theorem quo_seven {m : Nat} (h : m < 18446744073709551616) : IntKind.u64.wrap ((m : Int) / 128) = (m : Int) / 128 := by
  have e : (m : Int) / 128 = ((m / 128 : Nat) : Int) := rfl
  rw [e, wrap64u (by omega)]
def packV (k i n : Int) : V := if 0 ≤ k ∧ k ≤ 255 ∧ 0 ≤ i ∧ i ≤ 65535 ∧ 0 ≤ n ∧ n ≤ 255 then .tup [.int .u32 (k * 16777216 + i * 256 + n), .int .i64 0] else .tup [.int .u32 0, .int .i64 1]
@[simp] def gPack : List V → Option V := f3 (kI .i64) (kI .i64) (kI .i64) fun k i n => some (packV k i n)
theorem wrap_8 (k : Int) : IntKind.i64.wrap (IntKind.u8.wrap k) = k % 256 := by
  simp only [IntKind.wrap, IntKind.bits, IntKind.signed]
  simp
  omega
theorem wrap_16 (k : Int) : IntKind.i64.wrap (IntKind.u16.wrap k) = k % 65536 := by
  simp only [IntKind.wrap, IntKind.bits, IntKind.signed]
  simp
  omega
theorem u32_small {m : Nat} (h : m < 4294967296) : IntKind.u32.wrap (m : Int) = m := wrapU rfl (by simpa [IntKind.bits] using h)
theorem u32b : 2 ^ IntKind.bits .u32 = 4294967296 := rfl
theorem or_shift (a b n m : Nat) (hm : 2 ^ n = m) (h : b < m) : a * m ||| b = a * m + b := by
  subst hm
  rw [← Nat.shiftLeft_eq, ← Nat.shiftLeft_add_eq_or_of_lt h]
theorem pack_bits {k i n : Nat} (hk : k ≤ 255) (hi : i ≤ 65535) (hn : n ≤ 255) :
    bits .or .u32 (bits .or .u32 (IntKind.u32.wrap (IntKind.u32.wrap (k : Int) * 2 ^ min 24 IntKind.u32.bits)) (IntKind.u32.wrap (IntKind.u32.wrap (i : Int) * 2 ^ min 8 IntKind.u32.bits))) (IntKind.u32.wrap (n : Int)) = (k : Int) * 16777216 + (i : Int) * 256 + n := by
  have e1 : ((k : Int) * 2 ^ min 24 IntKind.u32.bits) = ((k * 16777216 : Nat) : Int) := rfl
  have e2 : ((i : Int) * 2 ^ min 8 IntKind.u32.bits) = ((i * 256 : Nat) : Int) := rfl
  have b1 : k * 16777216 ||| i * 256 = k * 16777216 + i * 256 := or_shift _ _ 24 _ (by decide) (by omega)
  have b2 : (k * 65536 + i) * 256 ||| n = (k * 65536 + i) * 256 + n := or_shift _ _ 8 _ (by decide) (by omega)
  have b3 : k * 16777216 + i * 256 = (k * 65536 + i) * 256 := by omega
  rw [u32_small (m := k) (by omega), u32_small (m := i) (by omega), u32_small (m := n) (by omega), e1, e2, u32_small (by omega), u32_small (by omega), bits_or rfl (by rw [u32b]; omega) (by rw [u32b]; omega), b1,
    bits_or rfl (by rw [u32b]; omega) (by rw [u32b]; omega), b3, b2]
  omega
end
section
open Go Go.Proofs

def headN (e : Ex) : Nat := (e.k * 16777216 + e.i * 256 + e.kids.length).toNat
mutual
def bytE : Ex → List Int
  | .mk k i l => sev (k * 16777216 + i * 256 + l.length).toNat ++ bytL l
def bytL : List Ex → List Int
  | [] => []
  | e :: l => bytE e ++ bytL l
end
theorem bytE_eq (e : Ex) : bytE e = sev (headN e) ++ bytL e.kids := by cases e; rw [bytE]; rfl
theorem bytL_take : ∀ (l : List Ex) (j : Nat) (h : j < l.length), bytL (l.take (j + 1)) = bytL (l.take j) ++ bytE l[j]
  | e :: l, 0, h => by simp [bytL]
  | e :: l, j + 1, h => by simp only [List.take_succ_cons, bytL, List.getElem_cons_succ]; rw [bytL_take l j (by simpa using h), List.append_assoc]
theorem sev_ne (n : Nat) : ∃ a l, sev n = a :: l := by
  by_cases h : 128 ≤ n
  · exact ⟨_, _, sev_ge h⟩
  · exact ⟨_, _, sev_lt (by omega)⟩
theorem bytE_ne (e : Ex) : ∃ a l, bytE e = a :: l := by
  obtain ⟨a, l, h⟩ := sev_ne (headN e)
  exact ⟨a, l ++ bytL e.kids, by rw [bytE_eq, h]; rfl⟩
/-- A node that may be: its head's parts fit. -/
theorem shaped_fits {e : Ex} (h : shapedX e = true) : 0 ≤ e.k ∧ e.k ≤ 255 ∧ 0 ≤ e.i ∧ e.i ≤ 65535 ∧ (0 : Int) ≤ e.kids.length ∧ (e.kids.length : Int) ≤ 255 := by
  unfold shapedX at h
  simp only [Bool.and_eq_true, decide_eq_true_eq] at h
  obtain ⟨⟨h1, h2⟩, h3⟩ := h
  unfold mostOf at h2
  have h4 : e.i ≤ 99 := by
    repeat' split at h2
    all_goals omega
  unfold kidsAre at h3
  repeat' split at h3
  all_goals first | (cases h3; done) | (simp only [Bool.and_eq_true, decide_eq_true_eq] at h3; omega)
theorem head_lt {e : Ex} (h : shapedX e = true) : headN e < 4294967296 := by have := shaped_fits h; unfold headN; omega
theorem sev_len5 {n : Nat} (h : n < 4294967296) : (sev n).length ≤ 5 := sev_len 4 n (Nat.lt_of_lt_of_le h (by decide))
mutual
theorem bytE_len : ∀ e : Ex, allX e = true → (bytE e).length ≤ 5 * cntE e
  | .mk k i l, h => by
    rw [allX_eq, Bool.and_eq_true] at h
    have h1 := sev_len5 (head_lt h.1)
    have h2 := bytL_len l (by simpa using h.2)
    rw [bytE_eq, List.length_append, cntE_eq]
    simp only [Ex.kids_mk] at *
    omega
theorem bytL_len : ∀ l : List Ex, (∀ e ∈ l, allX e = true) → (bytL l).length ≤ 5 * cntL l
  | [], h => by simp [bytL]
  | e :: l, h => by
    have h1 := bytE_len e (h e (by simp))
    have h2 := bytL_len l fun x hx => h x (by simp [hx])
    rw [bytL, cntL, List.length_append]; omega
end
@[simp] def gBytes : List V → Option V := f1 kE fun e => if allX e = true ∧ cntE e ≤ 1000 then some (.sl (encI .u8 (bytE e)) .no) else none
end
end Go.Proofs.YtibfdebhbibfpaaGreat.Ax
