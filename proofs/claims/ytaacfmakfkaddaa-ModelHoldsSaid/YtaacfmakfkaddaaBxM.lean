/- Contracts: alike; the law SubstAlphas. -/
import Derived.Test.YtaacfmakfkaddaaPlC
import Derived.Test.YtaacfmakfkaddaaBxF
import Derived.Test.YtaacfmakfkaddaaBxJ
set_option linter.unusedVariables false
set_option linter.unusedSimpArgs false
namespace Go.Proofs.Ytaacfmakfkaddaa.Ax
open Go Go.Proofs

def isQ (e : Ex) : Bool := decide (e.k = 7) || decide (e.k = 10)
@[simp] def gQ : List V → Option V := f1 kE fun e => some (.bool (isQ e))
@[simp] def gPlace : List V → Option V := f2 (kIs .i64) (kI .i64) fun l x => some (.int .i64 (pl l x))
def okLk (a b : Ex) (x y : List Int) (d : Int) : Prop := allX a = true ∧ allX b = true ∧ x.length = 64 ∧ y.length = 64 ∧ 0 ≤ d ∧ d + depE a ≤ 1000000
noncomputable instance (a b : Ex) (x y : List Int) (d : Int) : Decidable (okLk a b x y d) := Classical.propDecidable _
@[simp] noncomputable def gLk : List V → Option V := f5 kE kE kA kA (kI .i64) fun a b x y d => if okLk a b x y d then some (.bool (lkE a b x y d)) else none
end Go.Proofs.Ytaacfmakfkaddaa.Ax
