/- The kinds of arguments of this program's laws, opened. -/
import Derived.Test.YtaacfmakfkaddaaDoorAxU
import Derived.Test.YtaacfmakfkaddaaDoorAxT
set_option linter.unusedVariables false
set_option linter.unusedSimpArgs false
namespace Go.Proofs.YtaacfmakfkaddaaDoor.Ax
open Go Go.Proofs

theorem ownNone : ownKnob Tryd.prog.godebug = none := by kernel_rfl
theorem laidOut : laidOutB Tryd.prog = true := by kernel_rfl
set_option maxRecDepth 100000 in
theorem opened_E {H : Type} {eH : TypeId × Value → H} {W : World} : Opened 24 Ax.enc (fun e => fineE e = true) eH Tryd.prog W :=
  (opened_agg Tryd.underlying24 (at_ex Tryd.underlying24 Tryd.underlying22 Tryd.underlying3 ⟨rfl, rfl⟩ ⟨rfl, rfl⟩ ⟨rfl, rfl⟩ (by simp) (by simp) (by simp) (by simp))).map id (fun _ => rfl) (fun _ h => h)
theorem opened_I {H : Type} {eH : TypeId × Value → H} {W : World} : Opened 3 (fun n : Int => .int .i64 n) (inK .i64) eH Tryd.prog W := opened_int Tryd.underlying3
end Go.Proofs.YtaacfmakfkaddaaDoor.Ax
