/- The kinds of arguments of this program's laws, opened. -/
import Derived.Test.YtaacfmakfkaddaaAxU
import Derived.Test.YtaacfmakfkaddaaAxT
set_option linter.unusedVariables false
set_option linter.unusedSimpArgs false
namespace Go.Proofs.Ytaacfmakfkaddaa.Ax
open Go Go.Proofs

theorem ownNone : ownKnob Try.prog.godebug = none := by kernel_rfl
theorem laidOut : laidOutB Try.prog = true := by kernel_rfl
set_option maxRecDepth 100000 in
theorem opened_E {H : Type} {eH : TypeId × Value → H} {W : World} : Opened 27 Ax.enc (fun e => fineE e = true) eH Try.prog W :=
  (opened_agg Try.underlying27 (at_ex Try.underlying27 Try.underlying25 Try.underlying3 ⟨rfl, rfl⟩ ⟨rfl, rfl⟩ ⟨rfl, rfl⟩ (by simp) (by simp) (by simp) (by simp))).map id (fun _ => rfl) (fun _ h => h)
theorem at_is {H : Type} {eH : TypeId × Value → H} {W : World} {b : Nat} {sp : Nat → Bool} {hd : Bool} (n : Nat) : OpenAt eH Try.prog W b sp hd n 28 (fun l : List Int => [.sl (encI .i64 l) .no]) (fun _ => True) :=
  (at_rows Try.underlying28 (cells_3) (by omega) (fun _ => rfl) (fun m _ => at_int Try.underlying3 m)).map id (fun _ => rfl) (fun _ _ => trivial)
theorem at_tb {H : Type} {eH : TypeId × Value → H} {W : World} {b : Nat} {sp : Nat → Bool} {hd : Bool} (n : Nat) : OpenAt eH Try.prog W b sp hd n 77 rTb.enc (fun _ => True) :=
  (at_struct3 Try.underlying77 rfl (by simp) (by simp) (by simp) (fun m _ => at_int Try.underlying3 m) (fun m _ => at_int Try.underlying3 m) (fun m _ => at_is m)).map (fun x => Tb.mk x.1 x.2.1 x.2.2) (fun _ => rfl) (fun _ _ => trivial)
theorem at_tbs {H : Type} {eH : TypeId × Value → H} {W : World} {b : Nat} {sp : Nat → Bool} {hd : Bool} (n : Nat) : OpenAt eH Try.prog W b sp hd n 22 (fun l : List Tb => [.sl (rTb.encL l) .no]) (fun _ => True) :=
  (at_rows Try.underlying22 (cells_77) (by omega) (fun _ => rfl) (fun m _ => at_tb m)).map id (fun _ => rfl) (fun _ _ => trivial)
theorem at_wo {H : Type} {eH : TypeId × Value → H} {W : World} {b : Nat} {sp : Nat → Bool} {hd : Bool} (n : Nat) : OpenAt eH Try.prog W b sp hd n 24 rWo.enc (fun _ => True) :=
  (at_struct3 Try.underlying24 rfl (by simp) (by simp) (by simp) (fun m _ => at_int Try.underlying3 m) (fun m _ => at_tbs m) (fun m _ => at_tbs m)).map (fun x => Wo.mk x.1 x.2.1 x.2.2) (fun _ => rfl) (fun _ _ => trivial)
theorem opened_W {H : Type} {eH : TypeId × Value → H} {W : World} : Opened 24 (fun w : Wo => .agg (rWo.enc w)) (fun _ => True) eH Try.prog W := opened_agg Try.underlying24 at_wo
end Go.Proofs.Ytaacfmakfkaddaa.Ax
