/- Rows of pairs as arguments, opened. -/
import Derived.Test.YtdnhgabopdcjoaaByU
import Derived.Test.YtdnhgabopdcjoaaCxS
set_option linter.unusedVariables false
set_option linter.unusedSimpArgs false
namespace Go.Proofs.Ytdnhgabopdcjoaa.Ax
open Go Go.Proofs

theorem at_pair {H : Type} {eH : TypeId × Value → H} {W : World} {b : Nat} {sp : Nat → Bool} {hd : Bool} (n : Nat) : OpenAt eH Try.prog W b sp hd n 46 rPair.enc (fun _ => True) :=
  (at_struct2 Try.underlying46 rfl (by simp) (by simp) (fun m _ => at_int Try.underlying3 m) (fun m _ => at_ex Try.underlying24 Try.underlying22 Try.underlying3 ⟨rfl, rfl⟩ ⟨rfl, rfl⟩ ⟨rfl, rfl⟩ (by simp) (by simp) (by simp) (by simp) m)).map (fun x => (x.1, x.2)) (fun x => by rw [rPair_enc, encC_eq]; rfl) (fun _ _ => trivial)
theorem opened_Ps {H : Type} {eH : TypeId × Value → H} {W : World} : Opened 42 (fun l : List (Int × Ex) => .sl (rPair.encL l) .no) (fun _ => True) eH Try.prog W :=
  (opened_sl Try.underlying42 (cells_46) (by omega) (fun _ => rfl) at_pair).map id (fun _ => rfl) (fun _ _ => trivial)
end Go.Proofs.Ytdnhgabopdcjoaa.Ax
