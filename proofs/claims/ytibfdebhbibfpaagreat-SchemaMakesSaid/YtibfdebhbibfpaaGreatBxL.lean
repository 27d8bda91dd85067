/- Contracts: ExprSames, walked. -/
import Derived.Test.YtibfdebhbibfpaaGreatBxH
import Derived.Test.YtibfdebhbibfpaaGreatPlB
import Derived.Test.YtibfdebhbibfpaaGreatByU
set_option linter.unusedVariables false
set_option linter.unusedSimpArgs false
namespace Go.Proofs.YtibfdebhbibfpaaGreat.Ax
open Go Go.Proofs

mutual
theorem fine_small : ∀ e : Ex, fineE e = true → smE e = true
  | .mk k i l, h => by
    rw [fineE] at h
    simp only [Bool.and_eq_true, decide_eq_true_eq] at h
    rw [smE, fine_smallL l h.2, Bool.and_true, decide_eq_true_eq]
    omega
theorem fine_smallL : ∀ l : List Ex, fineL l = true → smL l = true
  | [], h => by rw [smL]
  | e :: l, h => by
    rw [fineL, Bool.and_eq_true] at h
    rw [smL, fine_small e h.1, fine_smallL l h.2]; rfl
end
theorem ordE_self (a : Ex) : ordE a a = 0 := by have := ordE_flip a a; omega
end Go.Proofs.YtibfdebhbibfpaaGreat.Ax
