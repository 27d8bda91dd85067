/- Contracts: which expression stands ahead. -/
import Derived.Test.YtaacfmakfkaddaaBxD
import Derived.Laws.StructEq
set_option linter.unusedVariables false
set_option linter.unusedSimpArgs false
namespace Go.Proofs.Ytaacfmakfkaddaa.Ax
section
open Go Go.Proofs

def ordI (a b : Int) : Int := if a < b then -1 else if b < a then 1 else 0
mutual
def ordE : Ex → Ex → Int
  | .mk k i l, .mk k' i' l' => if k ≠ k' then ordI k k' else if i ≠ i' then ordI i i' else if l.length ≠ l'.length then ordI l.length l'.length else ordL l l'
def ordL : List Ex → List Ex → Int
  | a :: l, b :: m => if ordE a b ≠ 0 then ordE a b else ordL l m
  | _, _ => 0
end
@[simp] def gBy : List V → Option V := f2 (kI .i64) (kI .i64) fun a b => some (.int .i64 (ordI a b))
@[simp] def gSign : List V → Option V := f1 kB fun b => some (.int .i64 (if b then -1 else 1))
@[simp] def gHead : List V → Option V := f1 kE fun e => some (.agg [.int .i64 e.k, .int .i64 e.i, .int .i64 e.kids.length])
@[simp] def gOrder : List V → Option V := f2 kE kE fun a b => some (.int .i64 (ordE a b))
@[simp] def gSame : List V → Option V := f2 kE kE fun a b => some (.bool (rightE a == 0 && rightE b == 0 && decide (ordE a b = 0)))
def bothE (a b : Ex) : Int := if rightE a ≠ 0 then rightE a else rightE b
@[simp] def gBoth : List V → Option V := f2 kE kE fun a b => some (.int .i64 (bothE a b))
@[simp] def gCompare : List V → Option V := f2 kE kE fun a b => some (.tup [.int .i64 (if bothE a b = 0 then ordE a b else 0), .int .i64 (bothE a b)])
end
section
open Go Go.Proofs

@[simp] def gLike : List V → Option V := f2 kE kE fun a b => some (.bool (decide (ordE a b = 0)))
end
section
set_option linter.unusedVariables false
set_option linter.unusedSimpArgs false
open Go Go.Proofs

/- Its slices are no longer than a slice can be. -/
mutual
def smE : Ex → Bool
  | .mk _ _ l => decide (l.length * 40 ≤ 140737488355328) && smL l
def smL : List Ex → Bool
  | [] => true
  | e :: l => smE e && smL l
end
@[simp] def gCopy : List V → Option V := f1 kE fun e => if smE e = true then some (enc e) else none
end
end Go.Proofs.Ytaacfmakfkaddaa.Ax
