/- Parts as arguments, opened. -/
import Derived.Test.YtibfdebhbibfpaaGreatByU
import Derived.Test.YtibfdebhbibfpaaGreatDxD
set_option linter.unusedVariables false
set_option linter.unusedSimpArgs false
namespace Go.Proofs.YtibfdebhbibfpaaGreat.Ax
open Go Go.Proofs

@[simp] def encPa (p : List Ex × Int) : List V := [.sl (encL p.1) .no, .int .i64 p.2]
theorem at_es {H : Type} {eH : TypeId × Value → H} {W : World} {b : Nat} {sp : Nat → Bool} {hd : Bool} (n : Nat) : OpenAt eH Tryz.prog W b sp hd n 22 (fun l : List Ex => [.sl (encL l) .no]) (fun _ => True) :=
  (at_rows Tryz.underlying22 (cells_26) (by omega) (fun e => by rw [encC_eq]; rfl) (fun m _ => at_ex Tryz.underlying26 Tryz.underlying22 Tryz.underlying3 ⟨rfl, rfl⟩ ⟨rfl, rfl⟩ ⟨rfl, rfl⟩ (by simp) (by simp) (by simp) (by simp) m)).map id (fun l => by rw [encL_map]; rfl) (fun _ _ => trivial)
theorem at_pa {H : Type} {eH : TypeId × Value → H} {W : World} {b : Nat} {sp : Nat → Bool} {hd : Bool} (n : Nat) : OpenAt eH Tryz.prog W b sp hd n 24 encPa (fun _ => True) :=
  (at_struct2 Tryz.underlying24 rfl (by simp) (by simp) (fun m _ => at_es m) (fun m _ => at_int Tryz.underlying3 m)).map (fun x => (x.1, x.2)) (fun _ => rfl) (fun _ _ => trivial)
theorem opened_Pa {H : Type} {eH : TypeId × Value → H} {W : World} : Opened 24 (fun p : List Ex × Int => .agg (encPa p)) (fun _ => True) eH Tryz.prog W := opened_agg Tryz.underlying24 at_pa
end Go.Proofs.YtibfdebhbibfpaaGreat.Ax
