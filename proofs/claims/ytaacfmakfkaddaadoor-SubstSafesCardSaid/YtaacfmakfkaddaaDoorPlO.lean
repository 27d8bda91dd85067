/- Plain law: the common form names what is alike. -/
import Derived.Test.YtaacfmakfkaddaaDoorPlK
import Derived.Test.YtaacfmakfkaddaaDoorPlL
import Derived.Test.YtaacfmakfkaddaaDoorCxJ
set_option linter.unusedVariables false
set_option linter.unusedSimpArgs false
namespace Go.Proofs.YtaacfmakfkaddaaDoor.Ax
open Go Go.Proofs

/-! ### It has the same shape -/
theorem shaped_id {k i i' : Int} {l m : List Ex} (h : l.map isT = m.map isT) (h0 : 0 ≤ i') (h1 : i' ≤ mostOf k) (hs : shapedX (.mk k i l) = true) : shapedX (.mk k i' m) = true := by
  rw [shaped_same (m := m) h, shaped_G] at hs
  rw [shaped_G]
  unfold shG at hs ⊢
  have e : kidsAre (.mk k i' m) = kidsAre (.mk k i m) := rfl
  rw [e]
  simp only [Bool.and_eq_true, decide_eq_true_eq] at hs ⊢
  exact ⟨⟨h0, h1⟩, hs.2⟩
theorem most_var {k : Int} (h : k = 1 ∨ k = 7 ∨ k = 10) : mostOf k = 63 := by unfold mostOf; rw [if_pos h]
/-! ### What is alike has one common form -/
/-! ### Both ways round -/
/-! ### A tree and its common form -/
/-! ### What is alike leaves free alike -/
end Go.Proofs.YtaacfmakfkaddaaDoor.Ax
