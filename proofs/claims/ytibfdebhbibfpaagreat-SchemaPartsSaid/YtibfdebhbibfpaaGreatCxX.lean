/- The law SchemaPuts, walked. -/
import Derived.Test.YtibfdebhbibfpaaGreatCxV
import Derived.Test.YtibfdebhbibfpaaGreatCxO
set_option linter.unusedVariables false
set_option linter.unusedSimpArgs false
namespace Go.Proofs.YtibfdebhbibfpaaGreat.Ax
open Go Go.Proofs

end Go.Proofs.YtibfdebhbibfpaaGreat.Ax
