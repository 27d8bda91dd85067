/- Plain law: what is caught. -/
import Derived.Test.YtaacfmakfkaddaaDoorPlE
import Derived.Test.YtaacfmakfkaddaaDoorBxP
set_option linter.unusedVariables false
set_option linter.unusedSimpArgs false
namespace Go.Proofs.YtaacfmakfkaddaaDoor.Ax
section
open Go Go.Proofs

mutual
/-- What is caught. -/
def catE (own : Nat) (x : Int) : Ex → Nat
  | .mk k i l => if hasB (frE (.mk k i l)) x = true then (own &&& binP k i) ||| catL own x l else 0
def catL (own : Nat) (x : Int) : List Ex → Nat
  | [] => 0
  | e :: l => catE own x e ||| catL own x l
end
end
section
open Go Go.Proofs

structure Unf (e : Ex) : Prop where
  c : cntE (unfE e) ≤ 3 * cntE e
  d : depE (unfE e) ≤ 3 * depE e
  a : allX (unfE e) = true
  t : isT (unfE e) = isT e
  f : frE (unfE e) = frE e
end
end Go.Proofs.YtaacfmakfkaddaaDoor.Ax
