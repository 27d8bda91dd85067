/- The kinds of arguments of this program's laws, opened. -/
import Derived.Test.YtdpphpdjimmpbaaAxU
import Derived.Test.YtdpphpdjimmpbaaAxT
set_option linter.unusedVariables false
set_option linter.unusedSimpArgs false
namespace Go.Proofs.Ytdpphpdjimmpbaa.Ax
open Go Go.Proofs

theorem ownNone : ownKnob Try.prog.godebug = none := by kernel_rfl
theorem laidOut : laidOutB Try.prog = true := by kernel_rfl
set_option maxRecDepth 100000 in
theorem opened_E {H : Type} {eH : TypeId × Value → H} {W : World} : Opened 27 Ax.enc (fun e => fineE e = true) eH Try.prog W :=
  (opened_agg Try.underlying27 (at_ex Try.underlying27 Try.underlying25 Try.underlying3 ⟨rfl, rfl⟩ ⟨rfl, rfl⟩ ⟨rfl, rfl⟩ (by simp) (by simp) (by simp) (by simp))).map id (fun _ => rfl) (fun _ h => h)
theorem opened_I {H : Type} {eH : TypeId × Value → H} {W : World} : Opened 3 (fun n : Int => .int .i64 n) (inK .i64) eH Try.prog W := opened_int Try.underlying3
theorem opened_Is {H : Type} {eH : TypeId × Value → H} {W : World} : Opened 28 (fun l : List Int => .sl (encI .i64 l) .no) (fun l => (∀ n ∈ l, inK .i64 n) ∧ l.length * 8 ≤ 140737488351232) eH Try.prog W :=
  (opened_sl Try.underlying28 (cells_3) (by omega) (fun _ => rfl) (fun n => at_int Try.underlying3 n)).map id (fun _ => rfl) (fun _ h => by simpa [reachBytes] using h)
theorem opened_Bs {H : Type} {eH : TypeId × Value → H} {W : World} : Opened 48 (fun l : List Int => .sl (encI .u8 l) .no) (fun l => (∀ n ∈ l, inK .u8 n) ∧ l.length ≤ 140737488351232) eH Try.prog W :=
  (opened_sl Try.underlying48 (cells_5) (by omega) (fun _ => rfl) (fun n => at_int Try.underlying5 n)).map id (fun _ => rfl) (fun _ h => by simpa [reachBytes] using h)
theorem opened_S {H : Type} {eH : TypeId × Value → H} {W : World} : Opened 9 (fun s : ByteArray => .str s) (fun s => s.size ≤ reachBytes) eH Try.prog W := opened_str Try.underlying9
theorem opened_Es {H : Type} {eH : TypeId × Value → H} {W : World} : Opened 25 (fun l : List Ex => .sl (encL l) .no) (fun l => (∀ e ∈ l, fineE e = true) ∧ l.length * 40 ≤ 140737488351232) eH Try.prog W :=
  (opened_sl Try.underlying25 (cells_27) (by omega) (fun e => by rw [encC_eq]; rfl) (at_ex Try.underlying27 Try.underlying25 Try.underlying3 ⟨rfl, rfl⟩ ⟨rfl, rfl⟩ ⟨rfl, rfl⟩ (by simp) (by simp) (by simp) (by simp))).map id (fun l => by rw [encL_map]; rfl) (fun _ h => by simpa [reachBytes] using h)
theorem at_is {H : Type} {eH : TypeId × Value → H} {W : World} {b : Nat} {sp : Nat → Bool} {hd : Bool} (n : Nat) : OpenAt eH Try.prog W b sp hd n 28 (fun l : List Int => [.sl (encI .i64 l) .no]) (fun _ => True) :=
  (at_rows Try.underlying28 (cells_3) (by omega) (fun _ => rfl) (fun m _ => at_int Try.underlying3 m)).map id (fun _ => rfl) (fun _ _ => trivial)
theorem at_tb {H : Type} {eH : TypeId × Value → H} {W : World} {b : Nat} {sp : Nat → Bool} {hd : Bool} (n : Nat) : OpenAt eH Try.prog W b sp hd n 174 rTb.enc (fun _ => True) :=
  (at_struct3 Try.underlying174 rfl (by simp) (by simp) (by simp) (fun m _ => at_int Try.underlying3 m) (fun m _ => at_int Try.underlying3 m) (fun m _ => at_is m)).map (fun x => Tb.mk x.1 x.2.1 x.2.2) (fun _ => rfl) (fun _ _ => trivial)
theorem at_tbs {H : Type} {eH : TypeId × Value → H} {W : World} {b : Nat} {sp : Nat → Bool} {hd : Bool} (n : Nat) : OpenAt eH Try.prog W b sp hd n 22 (fun l : List Tb => [.sl (rTb.encL l) .no]) (fun _ => True) :=
  (at_rows Try.underlying22 (cells_174) (by omega) (fun _ => rfl) (fun m _ => at_tb m)).map id (fun _ => rfl) (fun _ _ => trivial)
theorem at_wo {H : Type} {eH : TypeId × Value → H} {W : World} {b : Nat} {sp : Nat → Bool} {hd : Bool} (n : Nat) : OpenAt eH Try.prog W b sp hd n 24 rWo.enc (fun _ => True) :=
  (at_struct3 Try.underlying24 rfl (by simp) (by simp) (by simp) (fun m _ => at_int Try.underlying3 m) (fun m _ => at_tbs m) (fun m _ => at_tbs m)).map (fun x => Wo.mk x.1 x.2.1 x.2.2) (fun _ => rfl) (fun _ _ => trivial)
theorem opened_W {H : Type} {eH : TypeId × Value → H} {W : World} : Opened 24 (fun w : Wo => .agg (rWo.enc w)) (fun _ => True) eH Try.prog W := opened_agg Try.underlying24 at_wo
end Go.Proofs.Ytdpphpdjimmpbaa.Ax
