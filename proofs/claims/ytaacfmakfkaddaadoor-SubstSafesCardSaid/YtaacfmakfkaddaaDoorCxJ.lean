/- Contracts: decoding; ExprDecodes, walked. -/
import Derived.Test.YtaacfmakfkaddaaDoorCxH
import Derived.Test.YtaacfmakfkaddaaDoorBxL
set_option linter.unusedVariables false
set_option linter.unusedSimpArgs false
namespace Go.Proofs.YtaacfmakfkaddaaDoor.Ax
open Go Go.Proofs

def decR (b : List Int) : Int × Ex × Nat × Nat := rdE false b 1001 0 0
def decErr (b : List Int) : Int := if (decR b).1 ≠ 0 then (decR b).1 else if (decR b).2.2.1 < b.length then 23 else rightE (decR b).2.1
def decX (b : List Int) : Ex := if decErr b = 0 then (decR b).2.1 else ex0
@[simp] noncomputable def gDecode : List V → Option V := f1 (kIs .u8) fun b => if byt b then some (.tup [enc (decX b), .int .i64 (decErr b)]) else none
end Go.Proofs.YtaacfmakfkaddaaDoor.Ax
