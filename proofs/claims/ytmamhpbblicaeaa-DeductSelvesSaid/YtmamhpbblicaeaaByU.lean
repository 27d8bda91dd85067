/- The kinds of arguments of this program's laws, opened. -/
import Derived.Test.YtmamhpbblicaeaaAxU
import Derived.Test.YtmamhpbblicaeaaAxT
set_option linter.unusedVariables false
set_option linter.unusedSimpArgs false
namespace Go.Proofs.Ytmamhpbblicaeaa.Ax
open Go Go.Proofs

theorem ownNone : ownKnob Try.prog.godebug = none := by kernel_rfl
theorem laidOut : laidOutB Try.prog = true := by kernel_rfl
set_option maxRecDepth 100000 in
theorem opened_E {H : Type} {eH : TypeId × Value → H} {W : World} : Opened 24 Ax.enc (fun e => fineE e = true) eH Try.prog W :=
  (opened_agg Try.underlying24 (at_ex Try.underlying24 Try.underlying22 Try.underlying3 ⟨rfl, rfl⟩ ⟨rfl, rfl⟩ ⟨rfl, rfl⟩ (by simp) (by simp) (by simp) (by simp))).map id (fun _ => rfl) (fun _ h => h)
end Go.Proofs.Ytmamhpbblicaeaa.Ax
