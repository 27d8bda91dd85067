/- Contracts: ExprSames, walked. -/
import Derived.Test.YtmamhpbblicaeaaBxH
import Derived.Test.YtmamhpbblicaeaaBxF
import Derived.Test.YtmamhpbblicaeaaByU
set_option linter.unusedVariables false
set_option linter.unusedSimpArgs false
namespace Go.Proofs.Ytmamhpbblicaeaa.Ax
open Go Go.Proofs

theorem ordE_self (a : Ex) : ordE a a = 0 := by have := ordE_flip a a; omega
end Go.Proofs.Ytmamhpbblicaeaa.Ax
