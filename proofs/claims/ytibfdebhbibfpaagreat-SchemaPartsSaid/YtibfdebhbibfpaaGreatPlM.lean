/- Plain law: what has been put in: its free variables; one behind the other; taken out again. -/
import Derived.Test.YtibfdebhbibfpaaGreatPlL
set_option linter.unusedVariables false
set_option linter.unusedSimpArgs false
namespace Go.Proofs.YtibfdebhbibfpaaGreat.Ax
open Go Go.Proofs

theorem kidsX {k i : Int} {l : List Ex} (ha : allX (.mk k i l) = true) : ∀ e ∈ l, allX e = true := allX_kids ha
theorem quF_sg {k i x : Int} {t : Ex} (h : ¬ ((k = 7 ∨ k = 10) ∧ i = x)) : quF k i (sgF x t) = sgF x t := by
  unfold quF
  split
  · rename_i hq; exact drF_sg fun e => h ⟨hq, e⟩
  · rfl
/-! ### Its free variables -/
/-! ### One behind the other -/
/-! ### Taken out again -/
end Go.Proofs.YtibfdebhbibfpaaGreat.Ax
