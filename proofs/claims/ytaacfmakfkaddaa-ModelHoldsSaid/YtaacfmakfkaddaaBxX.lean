/- Contracts: the sets of an expression, by the program and by the reference. -/
import Derived.Test.YtaacfmakfkaddaaBxU
import Derived.Test.YtaacfmakfkaddaaBxJ
set_option linter.unusedVariables false
set_option linter.unusedSimpArgs false
namespace Go.Proofs.Ytaacfmakfkaddaa.Ax
section
open Go Go.Proofs

def okX (e : Ex) : Prop := allX e = true
noncomputable instance (e : Ex) : Decidable (okX e) := Classical.propDecidable _
@[simp] noncomputable def gSet (F : Ex → Nat) : List V → Option V := f1 kE fun e => if okX e then some (.int .u64 (F e : Nat)) else none
def vaE (e : Ex) : Nat := boE e ||| ocE e
end
section
open Go Go.Proofs

def okOf (fi f : FuncId) (cs : List V) : Prop := f = fi ∧ cs = []
noncomputable instance (fi f : FuncId) (cs : List V) : Decidable (okOf fi f cs) := Classical.propDecidable _
def setV (F : Ex → Nat) (e : Ex) : V := .tup [.int .u64 ((if rightE e = 0 then F e else 0 : Nat) : Int), .int .i64 (rightE e)]
@[simp] noncomputable def gOf (fi : FuncId) (F : Ex → Nat) : List V → Option V := fun args => match args with
  | [ev, .fn f cs] => (dec ev).bind fun e => if okOf fi f cs then some (setV F e) else none
  | _ => none
@[simp] def gSetV (F : Ex → Nat) : List V → Option V := f1 kE fun e => some (setV F e)
@[simp] def gIsVar : List V → Option V := f1 (kI .i64) fun x => some (.bool (decide (0 ≤ x) && decide (x ≤ 63)))
def nfV (x : Int) (e : Ex) : V := if 0 ≤ x ∧ x ≤ 63 then .tup [.bool (decide (rightE e = 0) && !hasB (frE e) x), .int .i64 (rightE e)] else .tup [.bool false, .int .i64 1]
@[simp] def gNotFree : List V → Option V := f2 (kI .i64) kE fun x e => some (nfV x e)
@[simp] noncomputable def gIsFree : List V → Option V := f2 (kI .i64) kE fun x e => if okX e then some (.bool (hasB (frE e) x)) else none
end
end Go.Proofs.Ytaacfmakfkaddaa.Ax
