/- Contracts: alike, by the reference. -/
import Derived.Test.YtaacfmakfkaddaaDoorBxM
import Derived.Test.YtaacfmakfkaddaaDoorBxJ
set_option linter.unusedVariables false
set_option linter.unusedSimpArgs false
namespace Go.Proofs.YtaacfmakfkaddaaDoor.Ax
section
open Go Go.Proofs

def okAk (a b : Ex) (p q : List Int) : Prop := p.length = q.length ∧ p.length + depE a ≤ 1000000
noncomputable instance (a b : Ex) (p q : List Int) : Decidable (okAk a b p q) := Classical.propDecidable _
@[simp] noncomputable def gAlk : List V → Option V := f4 kE kE (kIs .i64) (kIs .i64) fun a b p q => if okAk a b p q then some (.bool (alkE a b p q)) else none
end
section
open Go Go.Proofs

theorem dec_zeros : decA [V.int .i64 0, V.int .i64 0, V.int .i64 0, V.int .i64 0, V.int .i64 0, V.int .i64 0, V.int .i64 0, V.int .i64 0, V.int .i64 0, V.int .i64 0, V.int .i64 0, V.int .i64 0, V.int .i64 0, V.int .i64 0, V.int .i64 0, V.int .i64 0, V.int .i64 0, V.int .i64 0, V.int .i64 0, V.int .i64 0, V.int .i64 0, V.int .i64 0, V.int .i64 0, V.int .i64 0, V.int .i64 0, V.int .i64 0, V.int .i64 0, V.int .i64 0, V.int .i64 0, V.int .i64 0, V.int .i64 0, V.int .i64 0, V.int .i64 0, V.int .i64 0, V.int .i64 0, V.int .i64 0, V.int .i64 0, V.int .i64 0, V.int .i64 0, V.int .i64 0, V.int .i64 0, V.int .i64 0, V.int .i64 0, V.int .i64 0, V.int .i64 0, V.int .i64 0, V.int .i64 0, V.int .i64 0, V.int .i64 0, V.int .i64 0, V.int .i64 0, V.int .i64 0, V.int .i64 0, V.int .i64 0, V.int .i64 0, V.int .i64 0, V.int .i64 0, V.int .i64 0, V.int .i64 0, V.int .i64 0, V.int .i64 0, V.int .i64 0, V.int .i64 0, V.int .i64 0] = some names0 := rfl
@[simp] def gAlpha : List V → Option V := f2 kE kE fun a b => some (.tup [.bool (decide (bothE a b = 0) && alkE a b [] []), .int .i64 (bothE a b)])
end
end Go.Proofs.YtaacfmakfkaddaaDoor.Ax
