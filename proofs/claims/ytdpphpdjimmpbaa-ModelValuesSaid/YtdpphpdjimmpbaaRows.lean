/-
  NARROWER THAN 'FOR EVERY INPUT', by the rows' own cells (each row's printed sentence says how): ModelValues: loops · InternOwn: loops · FreeClosed: loops · ExprBack: loops · InternParts: loops · InternRuns: loops · SchemaSwaps: loops · SchemaTurned: loops · DeductSelves: loops · ModelHolds: loops.
  DERIVED. THE GIVEN ROWS OF THIS SEAT. 10 by the template 'for every input the law returns true; each argument reads behind the call as it read before'; 0 by the template 'total and deterministic' (their statements: YtdpphpdjimmpbaaTotals.lean).
  GIVEN WITH THE SEED: the statements are not yours to turn. If you find one false, say at which input.
  Laid BY PROGRAM, IN A SANDBOX (cutbox-rows.mjs): the forced cells as the released guide's own fill.sh prints them over the translation ad8d6f6adca84801… (all of the seat's roots in one cut). By AI agents, Wed Nov 11 2026. No macro, syntax, notation, axiom, sorry.
-/
import Derived.Test.YtdpphpdjimmpbaaChecked
import GoSem.Claim
import GoSem.ClaimJoined
import GoSem.ClaimMapViews
import Derived.JoinedTies
import Derived.KernelRfl
namespace Go.Proofs.Ytdpphpdjimmpbaa
/- THE CELL 'sum', in the pinned program and in every row, IS THE sha256 OF THE DUMP (.gsa) THAT YtdpphpdjimmpbaaProg.lean LOADS. Nothing in Lean hashes anything: it is a label: what it is worth is what the hold of that sum in a sandbox is worth. -/
noncomputable def Try.pinned : Pinned := { name := "ytdpphpdjimmpbaa", sum := "ad8d6f6adca848016a51fa8b3365a66a7515aac3421f63ed816cf0527f4e9e8d", checked := Try.checked }
namespace Rows
def none {H : Type} : Left H := { results := [], args := [] }

/-- 'organonlaw24.ModelValues': WHATEVER THE INPUT: true; the input reads as it did. -/
def modelValuesSpec : ChangeSpec := { name := "modelValues", fn := fun _ => fun
  | [d1, d2, d3] => { results := [.lit (.bool true)], args := [d1, d2, d3] }
  | _ => none }
def modelValuesRow : OpenClaim := { program := "ytdpphpdjimmpbaa", sum := "ad8d6f6adca848016a51fa8b3365a66a7515aac3421f63ed816cf0527f4e9e8d", func := "organon/organonlaw24.ModelValues", spec := "modelValues", unfollowed := true, recurses := true, loops := true, plainKeys := false, apart := false }
def ModelValuesSaid : Prop := modelValuesRow.holds Try.pinned (OpenSpec.ofChange modelValuesSpec)

/-- ITS FALSE NEIGHBOUR: 'it returns false'. Refute it at one input. -/
def modelValuesWrong : ChangeSpec := { name := "modelValues", fn := fun _ => fun
  | [d1, d2, d3] => { results := [.lit (.bool false)], args := [d1, d2, d3] }
  | _ => none }
def ModelValuesWrongFalsely : Prop := modelValuesRow.holds Try.pinned (OpenSpec.ofChange modelValuesWrong)

/-- 'organonlaw06.InternOwn': WHATEVER THE INPUT: true; the input reads as it did. -/
def internOwnSpec : ChangeSpec := { name := "internOwn", fn := fun _ => fun
  | [d] => { results := [.lit (.bool true)], args := [d] }
  | _ => none }
def internOwnRow : OpenClaim := { program := "ytdpphpdjimmpbaa", sum := "ad8d6f6adca848016a51fa8b3365a66a7515aac3421f63ed816cf0527f4e9e8d", func := "organon/organonlaw06.InternOwn", spec := "internOwn", unfollowed := true, recurses := true, loops := true, plainKeys := false, apart := false }
def InternOwnSaid : Prop := internOwnRow.holds Try.pinned (OpenSpec.ofChange internOwnSpec)

/-- ITS FALSE NEIGHBOUR: 'it returns false'. Refute it at one input. -/
def internOwnWrong : ChangeSpec := { name := "internOwn", fn := fun _ => fun
  | [d] => { results := [.lit (.bool false)], args := [d] }
  | _ => none }
def InternOwnWrongFalsely : Prop := internOwnRow.holds Try.pinned (OpenSpec.ofChange internOwnWrong)

/-- 'organonlaw04.FreeClosed': WHATEVER THE INPUT: true; the input reads as it did. -/
def freeClosedSpec : ChangeSpec := { name := "freeClosed", fn := fun _ => fun
  | [d] => { results := [.lit (.bool true)], args := [d] }
  | _ => none }
def freeClosedRow : OpenClaim := { program := "ytdpphpdjimmpbaa", sum := "ad8d6f6adca848016a51fa8b3365a66a7515aac3421f63ed816cf0527f4e9e8d", func := "organon/organonlaw04.FreeClosed", spec := "freeClosed", unfollowed := true, recurses := true, loops := true, plainKeys := false, apart := false }
def FreeClosedSaid : Prop := freeClosedRow.holds Try.pinned (OpenSpec.ofChange freeClosedSpec)

/-- ITS FALSE NEIGHBOUR: 'it returns false'. Refute it at one input. -/
def freeClosedWrong : ChangeSpec := { name := "freeClosed", fn := fun _ => fun
  | [d] => { results := [.lit (.bool false)], args := [d] }
  | _ => none }
def FreeClosedWrongFalsely : Prop := freeClosedRow.holds Try.pinned (OpenSpec.ofChange freeClosedWrong)

/-- 'organonlaw02.ExprBack': WHATEVER THE INPUT: true; the input reads as it did. -/
def exprBackSpec : ChangeSpec := { name := "exprBack", fn := fun _ => fun
  | [d1, d2] => { results := [.lit (.bool true)], args := [d1, d2] }
  | _ => none }
def exprBackRow : OpenClaim := { program := "ytdpphpdjimmpbaa", sum := "ad8d6f6adca848016a51fa8b3365a66a7515aac3421f63ed816cf0527f4e9e8d", func := "organon/organonlaw02.ExprBack", spec := "exprBack", unfollowed := true, recurses := true, loops := true, plainKeys := false, apart := false }
def ExprBackSaid : Prop := exprBackRow.holds Try.pinned (OpenSpec.ofChange exprBackSpec)

/-- ITS FALSE NEIGHBOUR: 'it returns false'. Refute it at one input. -/
def exprBackWrong : ChangeSpec := { name := "exprBack", fn := fun _ => fun
  | [d1, d2] => { results := [.lit (.bool false)], args := [d1, d2] }
  | _ => none }
def ExprBackWrongFalsely : Prop := exprBackRow.holds Try.pinned (OpenSpec.ofChange exprBackWrong)

/-- 'organonlaw06.InternParts': WHATEVER THE INPUT: true; the input reads as it did. -/
def internPartsSpec : ChangeSpec := { name := "internParts", fn := fun _ => fun
  | [d] => { results := [.lit (.bool true)], args := [d] }
  | _ => none }
def internPartsRow : OpenClaim := { program := "ytdpphpdjimmpbaa", sum := "ad8d6f6adca848016a51fa8b3365a66a7515aac3421f63ed816cf0527f4e9e8d", func := "organon/organonlaw06.InternParts", spec := "internParts", unfollowed := true, recurses := true, loops := true, plainKeys := false, apart := false }
def InternPartsSaid : Prop := internPartsRow.holds Try.pinned (OpenSpec.ofChange internPartsSpec)

/-- ITS FALSE NEIGHBOUR: 'it returns false'. Refute it at one input. -/
def internPartsWrong : ChangeSpec := { name := "internParts", fn := fun _ => fun
  | [d] => { results := [.lit (.bool false)], args := [d] }
  | _ => none }
def InternPartsWrongFalsely : Prop := internPartsRow.holds Try.pinned (OpenSpec.ofChange internPartsWrong)

/-- 'organonlaw06.InternRuns': WHATEVER THE INPUT: true; the input reads as it did. -/
def internRunsSpec : ChangeSpec := { name := "internRuns", fn := fun _ => fun
  | [d1, d2] => { results := [.lit (.bool true)], args := [d1, d2] }
  | _ => none }
def internRunsRow : OpenClaim := { program := "ytdpphpdjimmpbaa", sum := "ad8d6f6adca848016a51fa8b3365a66a7515aac3421f63ed816cf0527f4e9e8d", func := "organon/organonlaw06.InternRuns", spec := "internRuns", unfollowed := true, recurses := true, loops := true, plainKeys := false, apart := false }
def InternRunsSaid : Prop := internRunsRow.holds Try.pinned (OpenSpec.ofChange internRunsSpec)

/-- ITS FALSE NEIGHBOUR: 'it returns false'. Refute it at one input. -/
def internRunsWrong : ChangeSpec := { name := "internRuns", fn := fun _ => fun
  | [d1, d2] => { results := [.lit (.bool false)], args := [d1, d2] }
  | _ => none }
def InternRunsWrongFalsely : Prop := internRunsRow.holds Try.pinned (OpenSpec.ofChange internRunsWrong)

/-- 'organonlaw07.SchemaSwaps': WHATEVER THE INPUT: true; the input reads as it did. -/
def schemaSwapsSpec : ChangeSpec := { name := "schemaSwaps", fn := fun _ => fun
  | [d1, d2, d3, d4] => { results := [.lit (.bool true)], args := [d1, d2, d3, d4] }
  | _ => none }
def schemaSwapsRow : OpenClaim := { program := "ytdpphpdjimmpbaa", sum := "ad8d6f6adca848016a51fa8b3365a66a7515aac3421f63ed816cf0527f4e9e8d", func := "organon/organonlaw07.SchemaSwaps", spec := "schemaSwaps", unfollowed := true, recurses := true, loops := true, plainKeys := false, apart := false }
def SchemaSwapsSaid : Prop := schemaSwapsRow.holds Try.pinned (OpenSpec.ofChange schemaSwapsSpec)

/-- ITS FALSE NEIGHBOUR: 'it returns false'. Refute it at one input. -/
def schemaSwapsWrong : ChangeSpec := { name := "schemaSwaps", fn := fun _ => fun
  | [d1, d2, d3, d4] => { results := [.lit (.bool false)], args := [d1, d2, d3, d4] }
  | _ => none }
def SchemaSwapsWrongFalsely : Prop := schemaSwapsRow.holds Try.pinned (OpenSpec.ofChange schemaSwapsWrong)

/-- 'organonlaw07.SchemaTurned': WHATEVER THE INPUT: true; the input reads as it did. -/
def schemaTurnedSpec : ChangeSpec := { name := "schemaTurned", fn := fun _ => fun
  | [d1, d2, d3, d4] => { results := [.lit (.bool true)], args := [d1, d2, d3, d4] }
  | _ => none }
def schemaTurnedRow : OpenClaim := { program := "ytdpphpdjimmpbaa", sum := "ad8d6f6adca848016a51fa8b3365a66a7515aac3421f63ed816cf0527f4e9e8d", func := "organon/organonlaw07.SchemaTurned", spec := "schemaTurned", unfollowed := true, recurses := true, loops := true, plainKeys := false, apart := false }
def SchemaTurnedSaid : Prop := schemaTurnedRow.holds Try.pinned (OpenSpec.ofChange schemaTurnedSpec)

/-- ITS FALSE NEIGHBOUR: 'it returns false'. Refute it at one input. -/
def schemaTurnedWrong : ChangeSpec := { name := "schemaTurned", fn := fun _ => fun
  | [d1, d2, d3, d4] => { results := [.lit (.bool false)], args := [d1, d2, d3, d4] }
  | _ => none }
def SchemaTurnedWrongFalsely : Prop := schemaTurnedRow.holds Try.pinned (OpenSpec.ofChange schemaTurnedWrong)

/-- 'organonlaw23.DeductSelves': WHATEVER THE INPUT: true; the input reads as it did. -/
def deductSelvesSpec : ChangeSpec := { name := "deductSelves", fn := fun _ => fun
  | [d] => { results := [.lit (.bool true)], args := [d] }
  | _ => none }
def deductSelvesRow : OpenClaim := { program := "ytdpphpdjimmpbaa", sum := "ad8d6f6adca848016a51fa8b3365a66a7515aac3421f63ed816cf0527f4e9e8d", func := "organon/organonlaw23.DeductSelves", spec := "deductSelves", unfollowed := true, recurses := true, loops := true, plainKeys := false, apart := false }
def DeductSelvesSaid : Prop := deductSelvesRow.holds Try.pinned (OpenSpec.ofChange deductSelvesSpec)

/-- ITS FALSE NEIGHBOUR: 'it returns false'. Refute it at one input. -/
def deductSelvesWrong : ChangeSpec := { name := "deductSelves", fn := fun _ => fun
  | [d] => { results := [.lit (.bool false)], args := [d] }
  | _ => none }
def DeductSelvesWrongFalsely : Prop := deductSelvesRow.holds Try.pinned (OpenSpec.ofChange deductSelvesWrong)

/-- 'organonlaw24.ModelHolds': WHATEVER THE INPUT: true; the input reads as it did. -/
def modelHoldsSpec : ChangeSpec := { name := "modelHolds", fn := fun _ => fun
  | [d1, d2, d3] => { results := [.lit (.bool true)], args := [d1, d2, d3] }
  | _ => none }
def modelHoldsRow : OpenClaim := { program := "ytdpphpdjimmpbaa", sum := "ad8d6f6adca848016a51fa8b3365a66a7515aac3421f63ed816cf0527f4e9e8d", func := "organon/organonlaw24.ModelHolds", spec := "modelHolds", unfollowed := true, recurses := true, loops := true, plainKeys := false, apart := false }
def ModelHoldsSaid : Prop := modelHoldsRow.holds Try.pinned (OpenSpec.ofChange modelHoldsSpec)

/-- ITS FALSE NEIGHBOUR: 'it returns false'. Refute it at one input. -/
def modelHoldsWrong : ChangeSpec := { name := "modelHolds", fn := fun _ => fun
  | [d1, d2, d3] => { results := [.lit (.bool false)], args := [d1, d2, d3] }
  | _ => none }
def ModelHoldsWrongFalsely : Prop := modelHoldsRow.holds Try.pinned (OpenSpec.ofChange modelHoldsWrong)

/- THE SECOND FORM. 'bulk': how many values and letters a reading holds, each counted each time it is reached (what is shared counts as often as it is met; a slice's spare places count too). A statement '..UptoSaid' is the law's where the arguments, and the package variables that the reading takes, are together of bulk at most 1048576: NARROWER than '..Said'. Prove '..Said' where nothing that the law and all that it calls make is longer than what came in: it says more and counts as full. Else prove '..UptoSaid'. A law counts once. -/
mutual
def uptoBulk {H : Type} : DataW H → Nat
  | .lit (.string bytes) => bytes.length + 1
  | .lit _ => 1
  | .nil => 1
  | .ptr d => uptoBulk d + 1
  | .slice elems spare => uptoBulkAll elems + uptoBulkAll spare + 1
  | .agg parts => uptoBulkAll parts + 1
  | .iface _ d => uptoBulk d + 1
  | .map entries => uptoBulkEntries entries + 1
  | .held _ => 1
def uptoBulkAll {H : Type} : List (DataW H) → Nat
  | [] => 0
  | d :: r => uptoBulk d + uptoBulkAll r
def uptoBulkEntries {H : Type} : List (Lit × DataW H) → Nat
  | [] => 0
  | x :: r => uptoBulkEntry x + uptoBulkEntries r
def uptoBulkEntry {H : Type} : Lit × DataW H → Nat
  | (.string bytes, d) => bytes.length + uptoBulk d + 1
  | (_, d) => uptoBulk d + 1
 end
def uptoSmall : (H : Type) → List (DataW H) → Bool := fun _ ds => decide (uptoBulkAll ds ≤ 1048576)
def OpenSpec.upto (s : _root_.Go.ChangeSpec) : _root_.Go.OpenSpec := { _root_.Go.OpenSpec.ofChange s with cond := some uptoSmall }

/-- 'organonlaw24.ModelValues', WHERE WHAT IT READS IS OF BULK AT MOST 1048576: true; the input reads as it did. -/
def modelValuesUptoRow : OpenClaim := { program := "ytdpphpdjimmpbaa", sum := "ad8d6f6adca848016a51fa8b3365a66a7515aac3421f63ed816cf0527f4e9e8d", func := "organon/organonlaw24.ModelValues", spec := "modelValues", unfollowed := true, recurses := true, loops := true, plainKeys := false, apart := false, narrowed := true }
def ModelValuesUptoSaid : Prop := modelValuesUptoRow.holds Try.pinned (OpenSpec.upto modelValuesSpec)

/-- 'organonlaw06.InternOwn', WHERE WHAT IT READS IS OF BULK AT MOST 1048576: true; the input reads as it did. -/
def internOwnUptoRow : OpenClaim := { program := "ytdpphpdjimmpbaa", sum := "ad8d6f6adca848016a51fa8b3365a66a7515aac3421f63ed816cf0527f4e9e8d", func := "organon/organonlaw06.InternOwn", spec := "internOwn", unfollowed := true, recurses := true, loops := true, plainKeys := false, apart := false, narrowed := true }
def InternOwnUptoSaid : Prop := internOwnUptoRow.holds Try.pinned (OpenSpec.upto internOwnSpec)

/-- 'organonlaw04.FreeClosed', WHERE WHAT IT READS IS OF BULK AT MOST 1048576: true; the input reads as it did. -/
def freeClosedUptoRow : OpenClaim := { program := "ytdpphpdjimmpbaa", sum := "ad8d6f6adca848016a51fa8b3365a66a7515aac3421f63ed816cf0527f4e9e8d", func := "organon/organonlaw04.FreeClosed", spec := "freeClosed", unfollowed := true, recurses := true, loops := true, plainKeys := false, apart := false, narrowed := true }
def FreeClosedUptoSaid : Prop := freeClosedUptoRow.holds Try.pinned (OpenSpec.upto freeClosedSpec)

/-- 'organonlaw02.ExprBack', WHERE WHAT IT READS IS OF BULK AT MOST 1048576: true; the input reads as it did. -/
def exprBackUptoRow : OpenClaim := { program := "ytdpphpdjimmpbaa", sum := "ad8d6f6adca848016a51fa8b3365a66a7515aac3421f63ed816cf0527f4e9e8d", func := "organon/organonlaw02.ExprBack", spec := "exprBack", unfollowed := true, recurses := true, loops := true, plainKeys := false, apart := false, narrowed := true }
def ExprBackUptoSaid : Prop := exprBackUptoRow.holds Try.pinned (OpenSpec.upto exprBackSpec)

/-- 'organonlaw06.InternParts', WHERE WHAT IT READS IS OF BULK AT MOST 1048576: true; the input reads as it did. -/
def internPartsUptoRow : OpenClaim := { program := "ytdpphpdjimmpbaa", sum := "ad8d6f6adca848016a51fa8b3365a66a7515aac3421f63ed816cf0527f4e9e8d", func := "organon/organonlaw06.InternParts", spec := "internParts", unfollowed := true, recurses := true, loops := true, plainKeys := false, apart := false, narrowed := true }
def InternPartsUptoSaid : Prop := internPartsUptoRow.holds Try.pinned (OpenSpec.upto internPartsSpec)

/-- 'organonlaw06.InternRuns', WHERE WHAT IT READS IS OF BULK AT MOST 1048576: true; the input reads as it did. -/
def internRunsUptoRow : OpenClaim := { program := "ytdpphpdjimmpbaa", sum := "ad8d6f6adca848016a51fa8b3365a66a7515aac3421f63ed816cf0527f4e9e8d", func := "organon/organonlaw06.InternRuns", spec := "internRuns", unfollowed := true, recurses := true, loops := true, plainKeys := false, apart := false, narrowed := true }
def InternRunsUptoSaid : Prop := internRunsUptoRow.holds Try.pinned (OpenSpec.upto internRunsSpec)

/-- 'organonlaw07.SchemaSwaps', WHERE WHAT IT READS IS OF BULK AT MOST 1048576: true; the input reads as it did. -/
def schemaSwapsUptoRow : OpenClaim := { program := "ytdpphpdjimmpbaa", sum := "ad8d6f6adca848016a51fa8b3365a66a7515aac3421f63ed816cf0527f4e9e8d", func := "organon/organonlaw07.SchemaSwaps", spec := "schemaSwaps", unfollowed := true, recurses := true, loops := true, plainKeys := false, apart := false, narrowed := true }
def SchemaSwapsUptoSaid : Prop := schemaSwapsUptoRow.holds Try.pinned (OpenSpec.upto schemaSwapsSpec)

/-- 'organonlaw07.SchemaTurned', WHERE WHAT IT READS IS OF BULK AT MOST 1048576: true; the input reads as it did. -/
def schemaTurnedUptoRow : OpenClaim := { program := "ytdpphpdjimmpbaa", sum := "ad8d6f6adca848016a51fa8b3365a66a7515aac3421f63ed816cf0527f4e9e8d", func := "organon/organonlaw07.SchemaTurned", spec := "schemaTurned", unfollowed := true, recurses := true, loops := true, plainKeys := false, apart := false, narrowed := true }
def SchemaTurnedUptoSaid : Prop := schemaTurnedUptoRow.holds Try.pinned (OpenSpec.upto schemaTurnedSpec)

/-- 'organonlaw23.DeductSelves', WHERE WHAT IT READS IS OF BULK AT MOST 1048576: true; the input reads as it did. -/
def deductSelvesUptoRow : OpenClaim := { program := "ytdpphpdjimmpbaa", sum := "ad8d6f6adca848016a51fa8b3365a66a7515aac3421f63ed816cf0527f4e9e8d", func := "organon/organonlaw23.DeductSelves", spec := "deductSelves", unfollowed := true, recurses := true, loops := true, plainKeys := false, apart := false, narrowed := true }
def DeductSelvesUptoSaid : Prop := deductSelvesUptoRow.holds Try.pinned (OpenSpec.upto deductSelvesSpec)

/-- 'organonlaw24.ModelHolds', WHERE WHAT IT READS IS OF BULK AT MOST 1048576: true; the input reads as it did. -/
def modelHoldsUptoRow : OpenClaim := { program := "ytdpphpdjimmpbaa", sum := "ad8d6f6adca848016a51fa8b3365a66a7515aac3421f63ed816cf0527f4e9e8d", func := "organon/organonlaw24.ModelHolds", spec := "modelHolds", unfollowed := true, recurses := true, loops := true, plainKeys := false, apart := false, narrowed := true }
def ModelHoldsUptoSaid : Prop := modelHoldsUptoRow.holds Try.pinned (OpenSpec.upto modelHoldsSpec)

end Rows
end Go.Proofs.Ytdpphpdjimmpbaa
