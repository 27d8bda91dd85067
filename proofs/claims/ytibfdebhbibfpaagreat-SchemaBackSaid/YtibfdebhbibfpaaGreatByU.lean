/- The kinds of arguments of this program's laws, opened. -/
import Derived.Test.YtibfdebhbibfpaaGreatAxU
import Derived.Test.YtibfdebhbibfpaaGreatAxT
set_option linter.unusedVariables false
set_option linter.unusedSimpArgs false
namespace Go.Proofs.YtibfdebhbibfpaaGreat.Ax
open Go Go.Proofs

theorem ownNone : ownKnob Tryz.prog.godebug = none := by kernel_rfl
theorem laidOut : laidOutB Tryz.prog = true := by kernel_rfl
set_option maxRecDepth 100000 in
theorem opened_E {H : Type} {eH : TypeId × Value → H} {W : World} : Opened 26 Ax.enc (fun e => fineE e = true) eH Tryz.prog W :=
  (opened_agg Tryz.underlying26 (at_ex Tryz.underlying26 Tryz.underlying22 Tryz.underlying3 ⟨rfl, rfl⟩ ⟨rfl, rfl⟩ ⟨rfl, rfl⟩ (by simp) (by simp) (by simp) (by simp))).map id (fun _ => rfl) (fun _ h => h)
theorem opened_I {H : Type} {eH : TypeId × Value → H} {W : World} : Opened 3 (fun n : Int => .int .i64 n) (inK .i64) eH Tryz.prog W := opened_int Tryz.underlying3
end Go.Proofs.YtibfdebhbibfpaaGreat.Ax
