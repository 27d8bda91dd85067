/- Contracts: expressions encoded; the law ExprBytes. -/
import Derived.Test.YtibfdebhbibfpaaGreatBxJ
set_option linter.unusedVariables false
set_option linter.unusedSimpArgs false
namespace Go.Proofs.YtibfdebhbibfpaaGreat.Ax
open Go Go.Proofs

def encodeV (e : Ex) : V := .tup [if rightE e = 0 then .sl (encI .u8 (bytE e)) .no else .sl [] .no, .int .i64 (rightE e)]
@[simp] def gEncode : List V → Option V := f1 kE fun e => some (encodeV e)
end Go.Proofs.YtibfdebhbibfpaaGreat.Ax
