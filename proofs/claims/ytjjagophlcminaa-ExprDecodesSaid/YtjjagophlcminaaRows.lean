/-
  NARROWER THAN 'FOR EVERY INPUT', by the rows' own cells (each row's printed sentence says how): ExprRights: loops · ExprBytes: loops · SubstAlphas: loops · ExprSames: loops · ExprOrders: loops · RulePlains: loops · FreeAsks: loops · ExprParts: loops · RuleGens: loops · FreeSets: loops.
  DERIVED. THE GIVEN ROWS OF THIS SEAT. 12 by the template 'for every input the law returns true; each argument reads behind the call as it read before'; 0 by the template 'total and deterministic' (their statements: YtjjagophlcminaaTotals.lean).
  GIVEN WITH THE SEED: the statements are not yours to turn. If you find one false, say at which input.
  Laid BY PROGRAM, IN A SANDBOX (cutbox-rows.mjs): the forced cells as the released guide's own fill.sh prints them over the translation b9bde4d06dff66ca… (all of the seat's roots in one cut). By AI agents, Wed Nov 11 2026. No macro, syntax, notation, axiom, sorry.
-/
import Derived.Test.YtjjagophlcminaaChecked
import GoSem.Claim
import GoSem.ClaimJoined
import GoSem.ClaimMapViews
import Derived.JoinedTies
import Derived.KernelRfl
namespace Go.Proofs.Ytjjagophlcminaa
/- THE CELL 'sum', in the pinned program and in every row, IS THE sha256 OF THE DUMP (.gsa) THAT YtjjagophlcminaaProg.lean LOADS. Nothing in Lean hashes anything: it is a label: what it is worth is what the hold of that sum in a sandbox is worth. -/
noncomputable def Try.pinned : Pinned := { name := "ytjjagophlcminaa", sum := "b9bde4d06dff66ca6f70233e122305bcfe2c052ab4ffe0b08a891a408da2c59d", checked := Try.checked }
namespace Rows
def none {H : Type} : Left H := { results := [], args := [] }

/-- 'organonlaw24.ModelWorlds': WHATEVER THE INPUT: true; the input reads as it did. -/
def modelWorldsSpec : ChangeSpec := { name := "modelWorlds", fn := fun _ => fun
  | [d] => { results := [.lit (.bool true)], args := [d] }
  | _ => none }
def modelWorldsRow : OpenClaim := { program := "ytjjagophlcminaa", sum := "b9bde4d06dff66ca6f70233e122305bcfe2c052ab4ffe0b08a891a408da2c59d", func := "organon/organonlaw24.ModelWorlds", spec := "modelWorlds", apart := false }
def ModelWorldsSaid : Prop := modelWorldsRow.holds Try.pinned (OpenSpec.ofChange modelWorldsSpec)

/-- ITS FALSE NEIGHBOUR: 'it returns false'. Refute it at one input. -/
def modelWorldsWrong : ChangeSpec := { name := "modelWorlds", fn := fun _ => fun
  | [d] => { results := [.lit (.bool false)], args := [d] }
  | _ => none }
def ModelWorldsWrongFalsely : Prop := modelWorldsRow.holds Try.pinned (OpenSpec.ofChange modelWorldsWrong)

/-- 'organonlaw02.ExprRights': WHATEVER THE INPUT: true; the input reads as it did. -/
def exprRightsSpec : ChangeSpec := { name := "exprRights", fn := fun _ => fun
  | [d] => { results := [.lit (.bool true)], args := [d] }
  | _ => none }
def exprRightsRow : OpenClaim := { program := "ytjjagophlcminaa", sum := "b9bde4d06dff66ca6f70233e122305bcfe2c052ab4ffe0b08a891a408da2c59d", func := "organon/organonlaw02.ExprRights", spec := "exprRights", unfollowed := true, recurses := true, loops := true, apart := false }
def ExprRightsSaid : Prop := exprRightsRow.holds Try.pinned (OpenSpec.ofChange exprRightsSpec)

/-- ITS FALSE NEIGHBOUR: 'it returns false'. Refute it at one input. -/
def exprRightsWrong : ChangeSpec := { name := "exprRights", fn := fun _ => fun
  | [d] => { results := [.lit (.bool false)], args := [d] }
  | _ => none }
def ExprRightsWrongFalsely : Prop := exprRightsRow.holds Try.pinned (OpenSpec.ofChange exprRightsWrong)

/-- 'organonlaw02.ExprBytes': WHATEVER THE INPUT: true; the input reads as it did. -/
def exprBytesSpec : ChangeSpec := { name := "exprBytes", fn := fun _ => fun
  | [d] => { results := [.lit (.bool true)], args := [d] }
  | _ => none }
def exprBytesRow : OpenClaim := { program := "ytjjagophlcminaa", sum := "b9bde4d06dff66ca6f70233e122305bcfe2c052ab4ffe0b08a891a408da2c59d", func := "organon/organonlaw02.ExprBytes", spec := "exprBytes", unfollowed := true, recurses := true, loops := true, apart := false }
def ExprBytesSaid : Prop := exprBytesRow.holds Try.pinned (OpenSpec.ofChange exprBytesSpec)

/-- ITS FALSE NEIGHBOUR: 'it returns false'. Refute it at one input. -/
def exprBytesWrong : ChangeSpec := { name := "exprBytes", fn := fun _ => fun
  | [d] => { results := [.lit (.bool false)], args := [d] }
  | _ => none }
def ExprBytesWrongFalsely : Prop := exprBytesRow.holds Try.pinned (OpenSpec.ofChange exprBytesWrong)

/-- 'organonlaw05.SubstAlphas': WHATEVER THE INPUT: true; the input reads as it did. -/
def substAlphasSpec : ChangeSpec := { name := "substAlphas", fn := fun _ => fun
  | [d1, d2] => { results := [.lit (.bool true)], args := [d1, d2] }
  | _ => none }
def substAlphasRow : OpenClaim := { program := "ytjjagophlcminaa", sum := "b9bde4d06dff66ca6f70233e122305bcfe2c052ab4ffe0b08a891a408da2c59d", func := "organon/organonlaw05.SubstAlphas", spec := "substAlphas", unfollowed := true, recurses := true, loops := true, apart := false }
def SubstAlphasSaid : Prop := substAlphasRow.holds Try.pinned (OpenSpec.ofChange substAlphasSpec)

/-- ITS FALSE NEIGHBOUR: 'it returns false'. Refute it at one input. -/
def substAlphasWrong : ChangeSpec := { name := "substAlphas", fn := fun _ => fun
  | [d1, d2] => { results := [.lit (.bool false)], args := [d1, d2] }
  | _ => none }
def SubstAlphasWrongFalsely : Prop := substAlphasRow.holds Try.pinned (OpenSpec.ofChange substAlphasWrong)

/-- 'organonlaw02.ExprSames': WHATEVER THE INPUT: true; the input reads as it did. -/
def exprSamesSpec : ChangeSpec := { name := "exprSames", fn := fun _ => fun
  | [d1, d2] => { results := [.lit (.bool true)], args := [d1, d2] }
  | _ => none }
def exprSamesRow : OpenClaim := { program := "ytjjagophlcminaa", sum := "b9bde4d06dff66ca6f70233e122305bcfe2c052ab4ffe0b08a891a408da2c59d", func := "organon/organonlaw02.ExprSames", spec := "exprSames", unfollowed := true, recurses := true, loops := true, apart := false }
def ExprSamesSaid : Prop := exprSamesRow.holds Try.pinned (OpenSpec.ofChange exprSamesSpec)

/-- ITS FALSE NEIGHBOUR: 'it returns false'. Refute it at one input. -/
def exprSamesWrong : ChangeSpec := { name := "exprSames", fn := fun _ => fun
  | [d1, d2] => { results := [.lit (.bool false)], args := [d1, d2] }
  | _ => none }
def ExprSamesWrongFalsely : Prop := exprSamesRow.holds Try.pinned (OpenSpec.ofChange exprSamesWrong)

/-- 'organonlaw02.ExprOrders': WHATEVER THE INPUT: true; the input reads as it did. -/
def exprOrdersSpec : ChangeSpec := { name := "exprOrders", fn := fun _ => fun
  | [d1, d2, d3] => { results := [.lit (.bool true)], args := [d1, d2, d3] }
  | _ => none }
def exprOrdersRow : OpenClaim := { program := "ytjjagophlcminaa", sum := "b9bde4d06dff66ca6f70233e122305bcfe2c052ab4ffe0b08a891a408da2c59d", func := "organon/organonlaw02.ExprOrders", spec := "exprOrders", unfollowed := true, recurses := true, loops := true, apart := false }
def ExprOrdersSaid : Prop := exprOrdersRow.holds Try.pinned (OpenSpec.ofChange exprOrdersSpec)

/-- ITS FALSE NEIGHBOUR: 'it returns false'. Refute it at one input. -/
def exprOrdersWrong : ChangeSpec := { name := "exprOrders", fn := fun _ => fun
  | [d1, d2, d3] => { results := [.lit (.bool false)], args := [d1, d2, d3] }
  | _ => none }
def ExprOrdersWrongFalsely : Prop := exprOrdersRow.holds Try.pinned (OpenSpec.ofChange exprOrdersWrong)

/-- 'organonlaw08.RulePlains': WHATEVER THE INPUT: true; the input reads as it did. -/
def rulePlainsSpec : ChangeSpec := { name := "rulePlains", fn := fun _ => fun
  | [d] => { results := [.lit (.bool true)], args := [d] }
  | _ => none }
def rulePlainsRow : OpenClaim := { program := "ytjjagophlcminaa", sum := "b9bde4d06dff66ca6f70233e122305bcfe2c052ab4ffe0b08a891a408da2c59d", func := "organon/organonlaw08.RulePlains", spec := "rulePlains", unfollowed := true, recurses := true, loops := true, apart := false }
def RulePlainsSaid : Prop := rulePlainsRow.holds Try.pinned (OpenSpec.ofChange rulePlainsSpec)

/-- ITS FALSE NEIGHBOUR: 'it returns false'. Refute it at one input. -/
def rulePlainsWrong : ChangeSpec := { name := "rulePlains", fn := fun _ => fun
  | [d] => { results := [.lit (.bool false)], args := [d] }
  | _ => none }
def RulePlainsWrongFalsely : Prop := rulePlainsRow.holds Try.pinned (OpenSpec.ofChange rulePlainsWrong)

/-- 'organonlaw04.FreeAsks': WHATEVER THE INPUT: true; the input reads as it did. -/
def freeAsksSpec : ChangeSpec := { name := "freeAsks", fn := fun _ => fun
  | [d1, d2] => { results := [.lit (.bool true)], args := [d1, d2] }
  | _ => none }
def freeAsksRow : OpenClaim := { program := "ytjjagophlcminaa", sum := "b9bde4d06dff66ca6f70233e122305bcfe2c052ab4ffe0b08a891a408da2c59d", func := "organon/organonlaw04.FreeAsks", spec := "freeAsks", unfollowed := true, recurses := true, loops := true, apart := false }
def FreeAsksSaid : Prop := freeAsksRow.holds Try.pinned (OpenSpec.ofChange freeAsksSpec)

/-- ITS FALSE NEIGHBOUR: 'it returns false'. Refute it at one input. -/
def freeAsksWrong : ChangeSpec := { name := "freeAsks", fn := fun _ => fun
  | [d1, d2] => { results := [.lit (.bool false)], args := [d1, d2] }
  | _ => none }
def FreeAsksWrongFalsely : Prop := freeAsksRow.holds Try.pinned (OpenSpec.ofChange freeAsksWrong)

/-- 'organonlaw02.ExprParts': WHATEVER THE INPUT: true; the input reads as it did. -/
def exprPartsSpec : ChangeSpec := { name := "exprParts", fn := fun _ => fun
  | [d1, d2, d3] => { results := [.lit (.bool true)], args := [d1, d2, d3] }
  | _ => none }
def exprPartsRow : OpenClaim := { program := "ytjjagophlcminaa", sum := "b9bde4d06dff66ca6f70233e122305bcfe2c052ab4ffe0b08a891a408da2c59d", func := "organon/organonlaw02.ExprParts", spec := "exprParts", unfollowed := true, recurses := true, loops := true, apart := false }
def ExprPartsSaid : Prop := exprPartsRow.holds Try.pinned (OpenSpec.ofChange exprPartsSpec)

/-- ITS FALSE NEIGHBOUR: 'it returns false'. Refute it at one input. -/
def exprPartsWrong : ChangeSpec := { name := "exprParts", fn := fun _ => fun
  | [d1, d2, d3] => { results := [.lit (.bool false)], args := [d1, d2, d3] }
  | _ => none }
def ExprPartsWrongFalsely : Prop := exprPartsRow.holds Try.pinned (OpenSpec.ofChange exprPartsWrong)

/-- 'organonlaw02.ExprDecodes': WHATEVER THE INPUT: true; the input reads as it did. -/
def exprDecodesSpec : ChangeSpec := { name := "exprDecodes", fn := fun _ => fun
  | [d] => { results := [.lit (.bool true)], args := [d] }
  | _ => none }
def exprDecodesRow : OpenClaim := { program := "ytjjagophlcminaa", sum := "b9bde4d06dff66ca6f70233e122305bcfe2c052ab4ffe0b08a891a408da2c59d", func := "organon/organonlaw02.ExprDecodes", spec := "exprDecodes", unfollowed := true, recurses := true, apart := false }
def ExprDecodesSaid : Prop := exprDecodesRow.holds Try.pinned (OpenSpec.ofChange exprDecodesSpec)

/-- ITS FALSE NEIGHBOUR: 'it returns false'. Refute it at one input. -/
def exprDecodesWrong : ChangeSpec := { name := "exprDecodes", fn := fun _ => fun
  | [d] => { results := [.lit (.bool false)], args := [d] }
  | _ => none }
def ExprDecodesWrongFalsely : Prop := exprDecodesRow.holds Try.pinned (OpenSpec.ofChange exprDecodesWrong)

/-- 'organonlaw08.RuleGens': WHATEVER THE INPUT: true; the input reads as it did. -/
def ruleGensSpec : ChangeSpec := { name := "ruleGens", fn := fun _ => fun
  | [d1, d2] => { results := [.lit (.bool true)], args := [d1, d2] }
  | _ => none }
def ruleGensRow : OpenClaim := { program := "ytjjagophlcminaa", sum := "b9bde4d06dff66ca6f70233e122305bcfe2c052ab4ffe0b08a891a408da2c59d", func := "organon/organonlaw08.RuleGens", spec := "ruleGens", unfollowed := true, recurses := true, loops := true, apart := false }
def RuleGensSaid : Prop := ruleGensRow.holds Try.pinned (OpenSpec.ofChange ruleGensSpec)

/-- ITS FALSE NEIGHBOUR: 'it returns false'. Refute it at one input. -/
def ruleGensWrong : ChangeSpec := { name := "ruleGens", fn := fun _ => fun
  | [d1, d2] => { results := [.lit (.bool false)], args := [d1, d2] }
  | _ => none }
def RuleGensWrongFalsely : Prop := ruleGensRow.holds Try.pinned (OpenSpec.ofChange ruleGensWrong)

/-- 'organonlaw04.FreeSets': WHATEVER THE INPUT: true; the input reads as it did. -/
def freeSetsSpec : ChangeSpec := { name := "freeSets", fn := fun _ => fun
  | [d] => { results := [.lit (.bool true)], args := [d] }
  | _ => none }
def freeSetsRow : OpenClaim := { program := "ytjjagophlcminaa", sum := "b9bde4d06dff66ca6f70233e122305bcfe2c052ab4ffe0b08a891a408da2c59d", func := "organon/organonlaw04.FreeSets", spec := "freeSets", unfollowed := true, recurses := true, loops := true, apart := false }
def FreeSetsSaid : Prop := freeSetsRow.holds Try.pinned (OpenSpec.ofChange freeSetsSpec)

/-- ITS FALSE NEIGHBOUR: 'it returns false'. Refute it at one input. -/
def freeSetsWrong : ChangeSpec := { name := "freeSets", fn := fun _ => fun
  | [d] => { results := [.lit (.bool false)], args := [d] }
  | _ => none }
def FreeSetsWrongFalsely : Prop := freeSetsRow.holds Try.pinned (OpenSpec.ofChange freeSetsWrong)

/- THE SECOND FORM. 'bulk': how many values and letters a reading holds, each counted each time it is reached (what is shared counts as often as it is met; a slice's spare places count too). A statement '..UptoSaid' is the law's where the arguments, and the package variables that the reading takes, are together of bulk at most 1048576: NARROWER than '..Said'. Prove '..Said' where nothing that the law and all that it calls make is longer than what came in: it says more and counts as full. Else prove '..UptoSaid'. A law counts once. -/
mutual
def uptoBulk {H : Type} : DataW H → Nat
  | .lit (.string bytes) => bytes.length + 1
  | .lit _ => 1
  | .nil => 1
  | .ptr d => uptoBulk d + 1
  | .slice elems spare => uptoBulkAll elems + uptoBulkAll spare + 1
  | .agg parts => uptoBulkAll parts + 1
  | .iface _ d => uptoBulk d + 1
  | .map entries => uptoBulkEntries entries + 1
  | .held _ => 1
def uptoBulkAll {H : Type} : List (DataW H) → Nat
  | [] => 0
  | d :: r => uptoBulk d + uptoBulkAll r
def uptoBulkEntries {H : Type} : List (Lit × DataW H) → Nat
  | [] => 0
  | x :: r => uptoBulkEntry x + uptoBulkEntries r
def uptoBulkEntry {H : Type} : Lit × DataW H → Nat
  | (.string bytes, d) => bytes.length + uptoBulk d + 1
  | (_, d) => uptoBulk d + 1
 end
def uptoSmall : (H : Type) → List (DataW H) → Bool := fun _ ds => decide (uptoBulkAll ds ≤ 1048576)
def OpenSpec.upto (s : _root_.Go.ChangeSpec) : _root_.Go.OpenSpec := { _root_.Go.OpenSpec.ofChange s with cond := some uptoSmall }

/-- 'organonlaw24.ModelWorlds', WHERE WHAT IT READS IS OF BULK AT MOST 1048576: true; the input reads as it did. -/
def modelWorldsUptoRow : OpenClaim := { program := "ytjjagophlcminaa", sum := "b9bde4d06dff66ca6f70233e122305bcfe2c052ab4ffe0b08a891a408da2c59d", func := "organon/organonlaw24.ModelWorlds", spec := "modelWorlds", apart := false, narrowed := true }
def ModelWorldsUptoSaid : Prop := modelWorldsUptoRow.holds Try.pinned (OpenSpec.upto modelWorldsSpec)

/-- 'organonlaw02.ExprRights', WHERE WHAT IT READS IS OF BULK AT MOST 1048576: true; the input reads as it did. -/
def exprRightsUptoRow : OpenClaim := { program := "ytjjagophlcminaa", sum := "b9bde4d06dff66ca6f70233e122305bcfe2c052ab4ffe0b08a891a408da2c59d", func := "organon/organonlaw02.ExprRights", spec := "exprRights", unfollowed := true, recurses := true, loops := true, apart := false, narrowed := true }
def ExprRightsUptoSaid : Prop := exprRightsUptoRow.holds Try.pinned (OpenSpec.upto exprRightsSpec)

/-- 'organonlaw02.ExprBytes', WHERE WHAT IT READS IS OF BULK AT MOST 1048576: true; the input reads as it did. -/
def exprBytesUptoRow : OpenClaim := { program := "ytjjagophlcminaa", sum := "b9bde4d06dff66ca6f70233e122305bcfe2c052ab4ffe0b08a891a408da2c59d", func := "organon/organonlaw02.ExprBytes", spec := "exprBytes", unfollowed := true, recurses := true, loops := true, apart := false, narrowed := true }
def ExprBytesUptoSaid : Prop := exprBytesUptoRow.holds Try.pinned (OpenSpec.upto exprBytesSpec)

/-- 'organonlaw05.SubstAlphas', WHERE WHAT IT READS IS OF BULK AT MOST 1048576: true; the input reads as it did. -/
def substAlphasUptoRow : OpenClaim := { program := "ytjjagophlcminaa", sum := "b9bde4d06dff66ca6f70233e122305bcfe2c052ab4ffe0b08a891a408da2c59d", func := "organon/organonlaw05.SubstAlphas", spec := "substAlphas", unfollowed := true, recurses := true, loops := true, apart := false, narrowed := true }
def SubstAlphasUptoSaid : Prop := substAlphasUptoRow.holds Try.pinned (OpenSpec.upto substAlphasSpec)

/-- 'organonlaw02.ExprSames', WHERE WHAT IT READS IS OF BULK AT MOST 1048576: true; the input reads as it did. -/
def exprSamesUptoRow : OpenClaim := { program := "ytjjagophlcminaa", sum := "b9bde4d06dff66ca6f70233e122305bcfe2c052ab4ffe0b08a891a408da2c59d", func := "organon/organonlaw02.ExprSames", spec := "exprSames", unfollowed := true, recurses := true, loops := true, apart := false, narrowed := true }
def ExprSamesUptoSaid : Prop := exprSamesUptoRow.holds Try.pinned (OpenSpec.upto exprSamesSpec)

/-- 'organonlaw02.ExprOrders', WHERE WHAT IT READS IS OF BULK AT MOST 1048576: true; the input reads as it did. -/
def exprOrdersUptoRow : OpenClaim := { program := "ytjjagophlcminaa", sum := "b9bde4d06dff66ca6f70233e122305bcfe2c052ab4ffe0b08a891a408da2c59d", func := "organon/organonlaw02.ExprOrders", spec := "exprOrders", unfollowed := true, recurses := true, loops := true, apart := false, narrowed := true }
def ExprOrdersUptoSaid : Prop := exprOrdersUptoRow.holds Try.pinned (OpenSpec.upto exprOrdersSpec)

/-- 'organonlaw08.RulePlains', WHERE WHAT IT READS IS OF BULK AT MOST 1048576: true; the input reads as it did. -/
def rulePlainsUptoRow : OpenClaim := { program := "ytjjagophlcminaa", sum := "b9bde4d06dff66ca6f70233e122305bcfe2c052ab4ffe0b08a891a408da2c59d", func := "organon/organonlaw08.RulePlains", spec := "rulePlains", unfollowed := true, recurses := true, loops := true, apart := false, narrowed := true }
def RulePlainsUptoSaid : Prop := rulePlainsUptoRow.holds Try.pinned (OpenSpec.upto rulePlainsSpec)

/-- 'organonlaw04.FreeAsks', WHERE WHAT IT READS IS OF BULK AT MOST 1048576: true; the input reads as it did. -/
def freeAsksUptoRow : OpenClaim := { program := "ytjjagophlcminaa", sum := "b9bde4d06dff66ca6f70233e122305bcfe2c052ab4ffe0b08a891a408da2c59d", func := "organon/organonlaw04.FreeAsks", spec := "freeAsks", unfollowed := true, recurses := true, loops := true, apart := false, narrowed := true }
def FreeAsksUptoSaid : Prop := freeAsksUptoRow.holds Try.pinned (OpenSpec.upto freeAsksSpec)

/-- 'organonlaw02.ExprParts', WHERE WHAT IT READS IS OF BULK AT MOST 1048576: true; the input reads as it did. -/
def exprPartsUptoRow : OpenClaim := { program := "ytjjagophlcminaa", sum := "b9bde4d06dff66ca6f70233e122305bcfe2c052ab4ffe0b08a891a408da2c59d", func := "organon/organonlaw02.ExprParts", spec := "exprParts", unfollowed := true, recurses := true, loops := true, apart := false, narrowed := true }
def ExprPartsUptoSaid : Prop := exprPartsUptoRow.holds Try.pinned (OpenSpec.upto exprPartsSpec)

/-- 'organonlaw02.ExprDecodes', WHERE WHAT IT READS IS OF BULK AT MOST 1048576: true; the input reads as it did. -/
def exprDecodesUptoRow : OpenClaim := { program := "ytjjagophlcminaa", sum := "b9bde4d06dff66ca6f70233e122305bcfe2c052ab4ffe0b08a891a408da2c59d", func := "organon/organonlaw02.ExprDecodes", spec := "exprDecodes", unfollowed := true, recurses := true, apart := false, narrowed := true }
def ExprDecodesUptoSaid : Prop := exprDecodesUptoRow.holds Try.pinned (OpenSpec.upto exprDecodesSpec)

/-- 'organonlaw08.RuleGens', WHERE WHAT IT READS IS OF BULK AT MOST 1048576: true; the input reads as it did. -/
def ruleGensUptoRow : OpenClaim := { program := "ytjjagophlcminaa", sum := "b9bde4d06dff66ca6f70233e122305bcfe2c052ab4ffe0b08a891a408da2c59d", func := "organon/organonlaw08.RuleGens", spec := "ruleGens", unfollowed := true, recurses := true, loops := true, apart := false, narrowed := true }
def RuleGensUptoSaid : Prop := ruleGensUptoRow.holds Try.pinned (OpenSpec.upto ruleGensSpec)

/-- 'organonlaw04.FreeSets', WHERE WHAT IT READS IS OF BULK AT MOST 1048576: true; the input reads as it did. -/
def freeSetsUptoRow : OpenClaim := { program := "ytjjagophlcminaa", sum := "b9bde4d06dff66ca6f70233e122305bcfe2c052ab4ffe0b08a891a408da2c59d", func := "organon/organonlaw04.FreeSets", spec := "freeSets", unfollowed := true, recurses := true, loops := true, apart := false, narrowed := true }
def FreeSetsUptoSaid : Prop := freeSetsUptoRow.holds Try.pinned (OpenSpec.upto freeSetsSpec)

end Rows
end Go.Proofs.Ytjjagophlcminaa
