/- Plain law: alike, by depths and by places. -/
import Derived.Test.YtaacfmakfkaddaaDoorAxY
import Derived.Test.YtaacfmakfkaddaaDoorBxD
set_option linter.unusedVariables false
set_option linter.unusedSimpArgs false
namespace Go.Proofs.YtaacfmakfkaddaaDoor.Ax
open Go Go.Proofs

/-- Where a number stands last in a list; -1: nowhere. -/
def plR : List Int → Int → Int
  | [], _ => -1
  | v :: r, x => if v = x then r.length else plR r x
def pl (l : List Int) (x : Int) : Int := plR l.reverse x
mutual
def lkE : Ex → Ex → List Int → List Int → Int → Bool
  | .mk k i l, b, x, y, d => decide (k = b.k) && decide (l.length = b.kids.length) &&
    (if k = 1 then decide (x.getD i.toNat 0 = y.getD b.i.toNat 0) && (decide (0 < x.getD i.toNat 0) || decide (i = b.i))
     else if k = 7 ∨ k = 10 then lkL l b.kids (x.set i.toNat d) (y.set b.i.toNat d) (d + 1) else decide (i = b.i) && lkL l b.kids x y (d + 1))
def lkL : List Ex → List Ex → List Int → List Int → Int → Bool
  | e :: l, f :: m, x, y, d => lkE e f x y d && lkL l m x y d
  | _, _, _, _, _ => true
end
end Go.Proofs.YtaacfmakfkaddaaDoor.Ax
