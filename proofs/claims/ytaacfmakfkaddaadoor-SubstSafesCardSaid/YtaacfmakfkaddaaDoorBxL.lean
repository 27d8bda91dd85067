/- Contracts: ExprSames, walked. -/
import Derived.Test.YtaacfmakfkaddaaDoorBxH
import Derived.Test.YtaacfmakfkaddaaDoorBxF
import Derived.Test.YtaacfmakfkaddaaDoorByU
set_option linter.unusedVariables false
set_option linter.unusedSimpArgs false
namespace Go.Proofs.YtaacfmakfkaddaaDoor.Ax
open Go Go.Proofs

theorem ordE_self (a : Ex) : ordE a a = 0 := by have := ordE_flip a a; omega
end Go.Proofs.YtaacfmakfkaddaaDoor.Ax
