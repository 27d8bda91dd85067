/- Contracts: words: packed heads, numbers in sevens. -/
import Derived.Test.YtaacfmakfkaddaaDoorAxY
import Derived.Test.YtaacfmakfkaddaaDoorAxT
import Derived.Test.YtaacfmakfkaddaaDoorBxD
set_option linter.unusedVariables false
set_option linter.unusedSimpArgs false
namespace Go.Proofs.YtaacfmakfkaddaaDoor.Ax
section
open Go Go.Proofs

def isU64 (n : Int) : Prop := 0 ≤ n ∧ n < 18446744073709551616
noncomputable instance (n : Int) : Decidable (isU64 n) := Classical.propDecidable _
@[simp] noncomputable def gPut : List V → Option V := f1 (kI .u64) fun n => if isU64 n then some (.sl (encI .u8 (sev n.toNat)) .no) else none
@[simp] noncomputable def gPutO : List V → Option (Nat × List (List V)) := f1 (kI .u64) fun n => if isU64 n then some (1, encI .u8 (sev n.toNat)) else none
theorem u64_of {n : Int} (h : isU64 n) : ∃ m : Nat, n = m ∧ m < 18446744073709551616 := by
  obtain ⟨h1, h2⟩ := h
  obtain ⟨m, rfl⟩ := Int.eq_ofNat_of_zero_le h1
  exact ⟨m, rfl, by omega⟩
theorem wrap64u {n : Nat} (h : n < 18446744073709551616) : IntKind.u64.wrap (n : Int) = n := wrapU rfl (by simpa [IntKind.bits] using h)
def packV (k i n : Int) : V := if 0 ≤ k ∧ k ≤ 255 ∧ 0 ≤ i ∧ i ≤ 65535 ∧ 0 ≤ n ∧ n ≤ 255 then .tup [.int .u32 (k * 16777216 + i * 256 + n), .int .i64 0] else .tup [.int .u32 0, .int .i64 1]
@[simp] def gPack : List V → Option V := f3 (kI .i64) (kI .i64) (kI .i64) fun k i n => some (packV k i n)
end
section
open Go Go.Proofs

mutual
def bytE : Ex → List Int
  | .mk k i l => sev (k * 16777216 + i * 256 + l.length).toNat ++ bytL l
def bytL : List Ex → List Int
  | [] => []
  | e :: l => bytE e ++ bytL l
end
@[simp] def gBytes : List V → Option V := f1 kE fun e => if allX e = true ∧ cntE e ≤ 1000 then some (.sl (encI .u8 (bytE e)) .no) else none
end
section
set_option linter.unusedVariables false
set_option linter.unusedSimpArgs false
open Go Go.Proofs

def encodeV (e : Ex) : V := .tup [if rightE e = 0 then .sl (encI .u8 (bytE e)) .no else .sl [] .no, .int .i64 (rightE e)]
@[simp] def gEncode : List V → Option V := f1 kE fun e => some (encodeV e)
end
section
set_option linter.unusedVariables false
set_option linter.unusedSimpArgs false
open Go Go.Proofs

/-- A number in sevens: its value, how many bytes it has, why not. -/
def getS : List Int → Nat → Nat → Nat × Nat × Int
  | [], _, _ => (0, 0, 10)
  | c :: l, i, n => if i = 9 ∧ 1 < c then (0, 0, 11) else if c < 128 then (if c = 0 ∧ 0 < i then (0, 0, 11) else (n + c.toNat * 128 ^ i, i + 1, 0)) else getS l (i + 1) (n + (c.toNat % 128) * 128 ^ i)
def byt (l : List Int) : Prop := ∀ c ∈ l, 0 ≤ c ∧ c < 256
noncomputable instance (l : List Int) : Decidable (byt l) := Classical.propDecidable _
def getV (l : List Int) : V := .tup [.int .u64 ((getS l 0 0).1 : Nat), .int .i64 ((getS l 0 0).2.1 : Nat), .int .i64 (getS l 0 0).2.2]
@[simp] noncomputable def gGet : List V → Option V := f1 (kIs .u8) fun l => if byt l then some (getV l) else none
def isU32 (n : Int) : Prop := 0 ≤ n ∧ n < 4294967296
noncomputable instance (n : Int) : Decidable (isU32 n) := Classical.propDecidable _
def unpV (h : Nat) : V := .tup [.int .i64 ((h / 16777216 : Nat) : Int), .int .i64 ((h / 256 % 65536 : Nat) : Int), .int .i64 ((h % 256 : Nat) : Int)]
@[simp] noncomputable def gUnpack : List V → Option V := f1 (kI .u32) fun h => if isU32 h then some (unpV h.toNat) else none
end
end Go.Proofs.YtaacfmakfkaddaaDoor.Ax
