/- The kinds of arguments of this program's laws, opened. -/
import Derived.Test.YtibfdebhbibfpaaGreatAxU
import Derived.Test.YtibfdebhbibfpaaGreatAxT
set_option linter.unusedVariables false
set_option linter.unusedSimpArgs false
namespace Go.Proofs.YtibfdebhbibfpaaGreat.Ax
open Go Go.Proofs

theorem ownNone : ownKnob Tryz.prog.godebug = none := by kernel_rfl
theorem laidOut : laidOutB Tryz.prog = true := by kernel_rfl
set_option maxRecDepth 100000 in
theorem opened_E {H : Type} {eH : TypeId × Value → H} {W : World} : Opened 26 Ax.enc (fun e => fineE e = true) eH Tryz.prog W :=
  (opened_agg Tryz.underlying26 (at_ex Tryz.underlying26 Tryz.underlying22 Tryz.underlying3 ⟨rfl, rfl⟩ ⟨rfl, rfl⟩ ⟨rfl, rfl⟩ (by simp) (by simp) (by simp) (by simp))).map id (fun _ => rfl) (fun _ h => h)
theorem opened_I {H : Type} {eH : TypeId × Value → H} {W : World} : Opened 3 (fun n : Int => .int .i64 n) (inK .i64) eH Tryz.prog W := opened_int Tryz.underlying3
theorem opened_Is {H : Type} {eH : TypeId × Value → H} {W : World} : Opened 32 (fun l : List Int => .sl (encI .i64 l) .no) (fun l => (∀ n ∈ l, inK .i64 n) ∧ l.length * 8 ≤ 140737488351232) eH Tryz.prog W :=
  (opened_sl Tryz.underlying32 (cells_3) (by omega) (fun _ => rfl) (fun n => at_int Tryz.underlying3 n)).map id (fun _ => rfl) (fun _ h => by simpa [reachBytes] using h)
theorem opened_S {H : Type} {eH : TypeId × Value → H} {W : World} : Opened 9 (fun s : ByteArray => .str s) (fun s => s.size ≤ reachBytes) eH Tryz.prog W := opened_str Tryz.underlying9
theorem opened_Es {H : Type} {eH : TypeId × Value → H} {W : World} : Opened 22 (fun l : List Ex => .sl (encL l) .no) (fun l => (∀ e ∈ l, fineE e = true) ∧ l.length * 40 ≤ 140737488351232) eH Tryz.prog W :=
  (opened_sl Tryz.underlying22 (cells_26) (by omega) (fun e => by rw [encC_eq]; rfl) (at_ex Tryz.underlying26 Tryz.underlying22 Tryz.underlying3 ⟨rfl, rfl⟩ ⟨rfl, rfl⟩ ⟨rfl, rfl⟩ (by simp) (by simp) (by simp) (by simp))).map id (fun l => by rw [encL_map]; rfl) (fun _ h => by simpa [reachBytes] using h)
theorem at_is {H : Type} {eH : TypeId × Value → H} {W : World} {b : Nat} {sp : Nat → Bool} {hd : Bool} (n : Nat) : OpenAt eH Tryz.prog W b sp hd n 32 (fun l : List Int => [.sl (encI .i64 l) .no]) (fun _ => True) :=
  (at_rows Tryz.underlying32 (cells_3) (by omega) (fun _ => rfl) (fun m _ => at_int Tryz.underlying3 m)).map id (fun _ => rfl) (fun _ _ => trivial)
theorem at_tb {H : Type} {eH : TypeId × Value → H} {W : World} {b : Nat} {sp : Nat → Bool} {hd : Bool} (n : Nat) : OpenAt eH Tryz.prog W b sp hd n 139 rTb.enc (fun _ => True) :=
  (at_struct3 Tryz.underlying139 rfl (by simp) (by simp) (by simp) (fun m _ => at_int Tryz.underlying3 m) (fun m _ => at_int Tryz.underlying3 m) (fun m _ => at_is m)).map (fun x => Tb.mk x.1 x.2.1 x.2.2) (fun _ => rfl) (fun _ _ => trivial)
theorem at_tbs {H : Type} {eH : TypeId × Value → H} {W : World} {b : Nat} {sp : Nat → Bool} {hd : Bool} (n : Nat) : OpenAt eH Tryz.prog W b sp hd n 43 (fun l : List Tb => [.sl (rTb.encL l) .no]) (fun _ => True) :=
  (at_rows Tryz.underlying43 (cells_139) (by omega) (fun _ => rfl) (fun m _ => at_tb m)).map id (fun _ => rfl) (fun _ _ => trivial)
theorem at_wo {H : Type} {eH : TypeId × Value → H} {W : World} {b : Nat} {sp : Nat → Bool} {hd : Bool} (n : Nat) : OpenAt eH Tryz.prog W b sp hd n 45 rWo.enc (fun _ => True) :=
  (at_struct3 Tryz.underlying45 rfl (by simp) (by simp) (by simp) (fun m _ => at_int Tryz.underlying3 m) (fun m _ => at_tbs m) (fun m _ => at_tbs m)).map (fun x => Wo.mk x.1 x.2.1 x.2.2) (fun _ => rfl) (fun _ _ => trivial)
theorem opened_W {H : Type} {eH : TypeId × Value → H} {W : World} : Opened 45 (fun w : Wo => .agg (rWo.enc w)) (fun _ => True) eH Tryz.prog W := opened_agg Tryz.underlying45 at_wo
end Go.Proofs.YtibfdebhbibfpaaGreat.Ax
