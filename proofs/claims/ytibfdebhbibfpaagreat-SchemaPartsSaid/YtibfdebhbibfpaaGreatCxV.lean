/- The law SubstRests, walked. -/
import Derived.Test.YtibfdebhbibfpaaGreatCxU
set_option linter.unusedVariables false
set_option linter.unusedSimpArgs false
namespace Go.Proofs.YtibfdebhbibfpaaGreat.Ax
open Go Go.Proofs

@[simp] def gVar : List V → Option V := f1 (kI .i64) fun x => some (enc (.mk 1 x []))
end Go.Proofs.YtibfdebhbibfpaaGreat.Ax
