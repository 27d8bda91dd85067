/- Contracts: the common form, made by the program. -/
import Derived.Test.YtaacfmakfkaddaaDoorDxY
import Derived.Test.YtaacfmakfkaddaaDoorCxR
import Derived.Test.YtaacfmakfkaddaaDoorBxM
import Derived.Test.YtaacfmakfkaddaaDoorBxZ
set_option linter.unusedVariables false
set_option linter.unusedSimpArgs false
namespace Go.Proofs.YtaacfmakfkaddaaDoor.Ax
open Go Go.Proofs

def cnV (o : Option Ex) : V := match o with
  | some e => .tup [enc e, .int .i64 0]
  | none => .tup [enc ex0, .int .i64 51]
theorem optL_head {α β : Type} {f : α → Option β} {l : List α} {j : Nat} (h : j < l.length) {L : List β} (h1 : optL f (l.take j) = some L) : (∃ y, f l[j] = some y ∧ optL f (l.take (j + 1)) = some (L ++ [y])) ∨ (f l[j] = none ∧ optL f l = none) := by
  cases hf : f l[j] with
  | none => exact .inr ⟨rfl, optL_none f l j h hf⟩
  | some y => exact .inl ⟨y, rfl, optL_take f l j h h1 hf⟩
def Nm (x : List Int) : Prop := ∀ z ∈ x, 0 ≤ z ∧ z ≤ 64
def okPc (e : Ex) (x : List Int) (u : Int) : Prop := allX e = true ∧ x.length = 64 ∧ Nm x ∧ isU64 u
noncomputable instance (e : Ex) (x : List Int) (u : Int) : Decidable (okPc e x u) := Classical.propDecidable _
@[simp] noncomputable def gPc : List V → Option V := f3 kE kA (kI .u64) fun e x u => if okPc e x u then some (cnV (pcE e x u.toNat)) else none
/-- What is done with the kids. -/
def pcK (F : Ex → Option Ex) (k i : Int) (l : List Ex) : Option Ex := (optL F l).map (.mk k i)
end Go.Proofs.YtaacfmakfkaddaaDoor.Ax
