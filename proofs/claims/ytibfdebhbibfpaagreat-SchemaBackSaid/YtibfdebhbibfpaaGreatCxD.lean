/- Contracts: closed formulas; FreeCloses, walked. -/
import Derived.Test.YtibfdebhbibfpaaGreatCxC
import Derived.Test.YtibfdebhbibfpaaGreatBxZ
set_option linter.unusedVariables false
set_option linter.unusedSimpArgs false
namespace Go.Proofs.YtibfdebhbibfpaaGreat.Ax
open Go Go.Proofs

/-- The numbers of a set below a bound, rising. -/
def upL (s : Nat) : Nat → List Int
  | 0 => []
  | j + 1 => if s.testBit j = true then upL s j ++ [(j : Int)] else upL s j
/-- All numbers of a set, from 63 down, generalised. -/
def dnE (s : Nat) (a : Ex) : Nat → Ex
  | 0 => a
  | j + 1 => if s.testBit (63 - j) = true then allQ ((63 - j : Nat) : Int) (dnE s a j) else dnE s a j
def shrN (s j : Nat) : Nat := s / 2 ^ j
theorem shr_eq {s j : Nat} (h : j < 64) : ((s : Nat) : Int).fdiv (2 ^ min j IntKind.u64.bits) = ((shrN s j : Nat) : Int) := by
  have e : min j IntKind.u64.bits = j := Nat.min_eq_left (by simp [IntKind.bits]; omega)
  rw [e, Int.fdiv_eq_ediv_of_nonneg _ (Int.le_of_lt (Int.pow_pos (by decide)))]
  unfold shrN; simp
theorem shr_one {s j : Nat} (hs : s < 18446744073709551616) : bits .and .u64 ((shrN s j : Nat) : Int) 1 = if s.testBit j = true then 1 else 0 := by
  have hl : shrN s j < 18446744073709551616 := Nat.lt_of_le_of_lt (Nat.div_le_self _ _) hs
  have := bits_and (k := .u64) rfl (a := shrN s j) (b := 1) (by simpa [IntKind.bits] using hl) (by simp [IntKind.bits])
  rw [show ((1 : Nat) : Int) = 1 from rfl] at this
  rw [this, Nat.and_one_is_mod, Nat.testBit_eq_decide_div_mod_eq]
  unfold shrN
  by_cases h : s / 2 ^ j % 2 = 1
  · simp [h]
  · have : s / 2 ^ j % 2 = 0 := by omega
    simp [this]
def listV (s : Nat) : V := .sl (encI .i64 (upL s 64)) .no
@[simp] noncomputable def gList : List V → Option V := f1 (kI .u64) fun s => if isU64 s then some (listV s.toNat) else none
def cloErr (a : Ex) : Int := if wantF a ≠ 0 then wantF a else rightE (dnE (frE a) a 64)
def cloX (a : Ex) : Ex := if cloErr a = 0 then dnE (frE a) a 64 else ex0
@[simp] def gClose : List V → Option V := f1 kE fun a => some (.tup [enc (cloX a), .int .i64 (cloErr a)])
end Go.Proofs.YtibfdebhbibfpaaGreat.Ax
