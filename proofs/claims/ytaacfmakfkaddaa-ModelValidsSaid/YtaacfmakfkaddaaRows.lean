/-
  NARROWER THAN 'FOR EVERY INPUT', by the rows' own cells (each row's printed sentence says how): ModelHolds: loops · ModelValids: loops.
  DERIVED. THE GIVEN ROWS OF THIS SEAT. 2 by the template 'for every input the law returns true; each argument reads behind the call as it read before'; 0 by the template 'total and deterministic' (their statements: YtaacfmakfkaddaaTotals.lean).
  GIVEN WITH THE SEED: the statements are not yours to turn. If you find one false, say at which input.
  Laid BY PROGRAM, IN A SANDBOX (cutbox-rows.mjs): the forced cells as the released guide's own fill.sh prints them over the translation d61f0e3527cd61f0… (all of the seat's roots in one cut). By AI agents, Wed Nov 11 2026. No macro, syntax, notation, axiom, sorry.
-/
import Derived.Test.YtaacfmakfkaddaaChecked
import GoSem.Claim
import GoSem.ClaimJoined
import GoSem.ClaimMapViews
import Derived.JoinedTies
import Derived.KernelRfl
namespace Go.Proofs.Ytaacfmakfkaddaa
/- THE CELL 'sum', in the pinned program and in every row, IS THE sha256 OF THE DUMP (.gsa) THAT YtaacfmakfkaddaaProg.lean LOADS. Nothing in Lean hashes anything: it is a label: what it is worth is what the hold of that sum in a sandbox is worth. -/
noncomputable def Try.pinned : Pinned := { name := "ytaacfmakfkaddaa", sum := "d61f0e3527cd61f059a10cb6d459d37f14aa32692f595745058d7d0c4515601e", checked := Try.checked }
namespace Rows
def none {H : Type} : Left H := { results := [], args := [] }

/-- 'organonlaw24.ModelHolds': WHATEVER THE INPUT: true; the input reads as it did. -/
def modelHoldsSpec : ChangeSpec := { name := "modelHolds", fn := fun _ => fun
  | [d1, d2, d3] => { results := [.lit (.bool true)], args := [d1, d2, d3] }
  | _ => none }
def modelHoldsRow : OpenClaim := { program := "ytaacfmakfkaddaa", sum := "d61f0e3527cd61f059a10cb6d459d37f14aa32692f595745058d7d0c4515601e", func := "organon/organonlaw24.ModelHolds", spec := "modelHolds", unfollowed := true, recurses := true, loops := true, apart := false }
def ModelHoldsSaid : Prop := modelHoldsRow.holds Try.pinned (OpenSpec.ofChange modelHoldsSpec)

/-- ITS FALSE NEIGHBOUR: 'it returns false'. Refute it at one input. -/
def modelHoldsWrong : ChangeSpec := { name := "modelHolds", fn := fun _ => fun
  | [d1, d2, d3] => { results := [.lit (.bool false)], args := [d1, d2, d3] }
  | _ => none }
def ModelHoldsWrongFalsely : Prop := modelHoldsRow.holds Try.pinned (OpenSpec.ofChange modelHoldsWrong)

/-- 'organonlaw24.ModelValids': WHATEVER THE INPUT: true; the input reads as it did. -/
def modelValidsSpec : ChangeSpec := { name := "modelValids", fn := fun _ => fun
  | [d1, d2] => { results := [.lit (.bool true)], args := [d1, d2] }
  | _ => none }
def modelValidsRow : OpenClaim := { program := "ytaacfmakfkaddaa", sum := "d61f0e3527cd61f059a10cb6d459d37f14aa32692f595745058d7d0c4515601e", func := "organon/organonlaw24.ModelValids", spec := "modelValids", unfollowed := true, recurses := true, loops := true, apart := false }
def ModelValidsSaid : Prop := modelValidsRow.holds Try.pinned (OpenSpec.ofChange modelValidsSpec)

/-- ITS FALSE NEIGHBOUR: 'it returns false'. Refute it at one input. -/
def modelValidsWrong : ChangeSpec := { name := "modelValids", fn := fun _ => fun
  | [d1, d2] => { results := [.lit (.bool false)], args := [d1, d2] }
  | _ => none }
def ModelValidsWrongFalsely : Prop := modelValidsRow.holds Try.pinned (OpenSpec.ofChange modelValidsWrong)

/- THE SECOND FORM. 'bulk': how many values and letters a reading holds, each counted each time it is reached (what is shared counts as often as it is met; a slice's spare places count too). A statement '..UptoSaid' is the law's where the arguments, and the package variables that the reading takes, are together of bulk at most 1048576: NARROWER than '..Said'. Prove '..Said' where nothing that the law and all that it calls make is longer than what came in: it says more and counts as full. Else prove '..UptoSaid'. A law counts once. -/
mutual
def uptoBulk {H : Type} : DataW H → Nat
  | .lit (.string bytes) => bytes.length + 1
  | .lit _ => 1
  | .nil => 1
  | .ptr d => uptoBulk d + 1
  | .slice elems spare => uptoBulkAll elems + uptoBulkAll spare + 1
  | .agg parts => uptoBulkAll parts + 1
  | .iface _ d => uptoBulk d + 1
  | .map entries => uptoBulkEntries entries + 1
  | .held _ => 1
def uptoBulkAll {H : Type} : List (DataW H) → Nat
  | [] => 0
  | d :: r => uptoBulk d + uptoBulkAll r
def uptoBulkEntries {H : Type} : List (Lit × DataW H) → Nat
  | [] => 0
  | x :: r => uptoBulkEntry x + uptoBulkEntries r
def uptoBulkEntry {H : Type} : Lit × DataW H → Nat
  | (.string bytes, d) => bytes.length + uptoBulk d + 1
  | (_, d) => uptoBulk d + 1
 end
def uptoSmall : (H : Type) → List (DataW H) → Bool := fun _ ds => decide (uptoBulkAll ds ≤ 1048576)
def OpenSpec.upto (s : _root_.Go.ChangeSpec) : _root_.Go.OpenSpec := { _root_.Go.OpenSpec.ofChange s with cond := some uptoSmall }

/-- 'organonlaw24.ModelHolds', WHERE WHAT IT READS IS OF BULK AT MOST 1048576: true; the input reads as it did. -/
def modelHoldsUptoRow : OpenClaim := { program := "ytaacfmakfkaddaa", sum := "d61f0e3527cd61f059a10cb6d459d37f14aa32692f595745058d7d0c4515601e", func := "organon/organonlaw24.ModelHolds", spec := "modelHolds", unfollowed := true, recurses := true, loops := true, apart := false, narrowed := true }
def ModelHoldsUptoSaid : Prop := modelHoldsUptoRow.holds Try.pinned (OpenSpec.upto modelHoldsSpec)

/-- 'organonlaw24.ModelValids', WHERE WHAT IT READS IS OF BULK AT MOST 1048576: true; the input reads as it did. -/
def modelValidsUptoRow : OpenClaim := { program := "ytaacfmakfkaddaa", sum := "d61f0e3527cd61f059a10cb6d459d37f14aa32692f595745058d7d0c4515601e", func := "organon/organonlaw24.ModelValids", spec := "modelValids", unfollowed := true, recurses := true, loops := true, apart := false, narrowed := true }
def ModelValidsUptoSaid : Prop := modelValidsUptoRow.holds Try.pinned (OpenSpec.upto modelValidsSpec)

end Rows
end Go.Proofs.Ytaacfmakfkaddaa
