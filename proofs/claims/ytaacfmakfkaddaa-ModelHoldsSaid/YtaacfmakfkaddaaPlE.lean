/- Plain law: sets of bits. -/
import Derived.Test.YtaacfmakfkaddaaBxD
import Derived.Test.YtaacfmakfkaddaaBxJ
set_option linter.unusedVariables false
set_option linter.unusedSimpArgs false
namespace Go.Proofs.Ytaacfmakfkaddaa.Ax
open Go Go.Proofs

/-- a without b. -/
def dif (a b : Nat) : Nat := a ^^^ (a &&& b)
@[simp] theorem dif_bit (a b i : Nat) : (dif a b).testBit i = (a.testBit i && !b.testBit i) := by
  unfold dif
  rw [Nat.testBit_xor, Nat.testBit_and]
  cases a.testBit i <;> cases b.testBit i <;> rfl
/-- Whether a number is one of a set. -/
def hasB (s : Nat) (n : Int) : Bool := decide (0 ≤ n) && decide (n < 64) && s.testBit n.toNat
/-- The set of one number. -/
def pw (n : Nat) : Nat := 2 ^ n
def powV (n : Int) : Nat := if 0 ≤ n ∧ n ≤ 63 then pw n.toNat else 0
def withN (s : Nat) (n : Int) : Nat := if 0 ≤ n ∧ n < 64 then s ||| pw n.toNat else s
def withoutN (s : Nat) (n : Int) : Nat := if 0 ≤ n ∧ n < 64 then dif s (pw n.toNat) else s
/-! ### The sets of an expression -/
def isQb (e : Ex) : Bool := decide (e.k = 7) || decide (e.k = 10)
def binP (k i : Int) : Nat := if k = 7 ∨ k = 10 then pw i.toNat else 0
mutual
/-- Free. -/
def frE : Ex → Nat
  | .mk k i l => if k = 1 then pw i.toNat else dif (frL l) (binP k i)
def frL : List Ex → Nat
  | [] => 0
  | e :: l => frE e ||| frL l
end
mutual
/-- Bound. -/
def boE : Ex → Nat
  | .mk k i l => binP k i ||| boL l
def boL : List Ex → Nat
  | [] => 0
  | e :: l => boE e ||| boL l
end
mutual
/-- Occurring as a term. -/
def ocE : Ex → Nat
  | .mk k i l => if k = 1 then pw i.toNat else ocL l
def ocL : List Ex → Nat
  | [] => 0
  | e :: l => ocE e ||| ocL l
end
mutual
/-- The occurrences of variables, each with the variables that are bound there. -/
def occE : Ex → Nat → List (Int × Nat)
  | .mk k i l, b => if k = 1 then [(i, b)] else occL l (b ||| binP k i)
def occL : List Ex → Nat → List (Int × Nat)
  | [], _ => []
  | e :: l, b => occE e b ++ occL l b
end
/-- What one that looks for variables does at each. -/
def stp1 (pr : Int → Nat → Bool) (x : Int) (b s : Nat) : Nat := if pr x b = true then s ||| pw x.toNat else s
def runO (st : Int → Nat → Nat → Nat) (l : List (Int × Nat)) (s : Nat) : Nat := l.foldl (fun s x => st x.1 x.2 s) s
section
set_option linter.unusedVariables false
set_option linter.unusedSimpArgs false
open Go Go.Proofs

@[simp] def gPow : List V → Option V := f1 (kI .i64) fun n => some (.int .u64 (powV n : Nat))
@[simp] noncomputable def gHas : List V → Option V := f2 (kI .u64) (kI .i64) fun s n => if isU64 s then some (.bool (hasB s.toNat n)) else none
@[simp] noncomputable def gWith : List V → Option V := f2 (kI .u64) (kI .i64) fun s n => if isU64 s then some (.int .u64 (withN s.toNat n : Nat)) else none
@[simp] noncomputable def gWithout : List V → Option V := f2 (kI .u64) (kI .i64) fun s n => if isU64 s then some (.int .u64 (withoutN s.toNat n : Nat)) else none
@[simp] noncomputable def gUnion : List V → Option V := f2 (kI .u64) (kI .u64) fun a b => if isU64 a ∧ isU64 b then some (.int .u64 (a.toNat ||| b.toNat : Nat)) else none
def bitV (n : Int) : V := if 0 ≤ n ∧ n < 64 then .tup [.int .u64 (pw n.toNat : Nat), .bool true] else .tup [.int .u64 0, .bool false]
@[simp] def gBit : List V → Option V := f1 (kI .i64) fun n => some (bitV n)
end
end Go.Proofs.Ytaacfmakfkaddaa.Ax
