/- Contracts: unfolded forms. -/
import Derived.Test.YtibfdebhbibfpaaGreatBxP
set_option linter.unusedVariables false
set_option linter.unusedSimpArgs false
namespace Go.Proofs.YtibfdebhbibfpaaGreat.Ax
open Go Go.Proofs

@[simp] def gUnf : List V → Option V := f1 kE fun e => if allX e = true then some (enc (unfE e)) else none
def plainErr (e : Ex) : Int := if rightE e ≠ 0 then rightE e else rightE (unfE e)
def plainX (e : Ex) : Ex := if plainErr e = 0 then unfE e else ex0
def rightX (e : Ex) : Ex := if rightE e = 0 then e else ex0
@[simp] def gRight2 : List V → Option V := f1 kE fun e => some (.tup [enc (rightX e), .int .i64 (rightE e)])
@[simp] def gPlain : List V → Option V := f1 kE fun e => some (.tup [enc (plainX e), .int .i64 (plainErr e)])
end Go.Proofs.YtibfdebhbibfpaaGreat.Ax
