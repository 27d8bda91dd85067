/- Contracts: ExprSames, walked. -/
import Derived.Test.YtibfdebhbibfpaaGreatBxH
import Derived.Test.YtibfdebhbibfpaaGreatBxF
import Derived.Test.YtibfdebhbibfpaaGreatByU
set_option linter.unusedVariables false
set_option linter.unusedSimpArgs false
namespace Go.Proofs.YtibfdebhbibfpaaGreat.Ax
open Go Go.Proofs

theorem ordE_self (a : Ex) : ordE a a = 0 := by have := ordE_flip a a; omega
end Go.Proofs.YtibfdebhbibfpaaGreat.Ax
