/-
  NARROWER THAN 'FOR EVERY INPUT', by the rows' own cells (each row's printed sentence says how): FreeBuilds: loops · ExprOwn: loops · FreeCatches: loops · RuleDetaches: loops · RuleEquals: loops · RuleSettles: loops · ExprPuts: loops · InternFull: loops · FreeSafe: loops · RuleBuilds: loops · FreeCloses: loops.
  DERIVED. THE GIVEN ROWS OF THIS SEAT. 12 by the template 'for every input the law returns true; each argument reads behind the call as it read before'; 0 by the template 'total and deterministic' (their statements: YtiippmhlkcbjmaaTotals.lean).
  GIVEN WITH THE SEED: the statements are not yours to turn. If you find one false, say at which input.
  Laid BY PROGRAM, IN A SANDBOX (cutbox-rows.mjs): the forced cells as the released guide's own fill.sh prints them over the translation b44513ca6d3da35a… (all of the seat's roots in one cut). By AI agents, Wed Nov 11 2026. No macro, syntax, notation, axiom, sorry.
-/
import Derived.Test.YtiippmhlkcbjmaaChecked
import GoSem.Claim
import GoSem.ClaimJoined
import GoSem.ClaimMapViews
import Derived.JoinedTies
import Derived.KernelRfl
namespace Go.Proofs.Ytiippmhlkcbjmaa
/- THE CELL 'sum', in the pinned program and in every row, IS THE sha256 OF THE DUMP (.gsa) THAT YtiippmhlkcbjmaaProg.lean LOADS. Nothing in Lean hashes anything: it is a label: what it is worth is what the hold of that sum in a sandbox is worth. -/
noncomputable def Try.pinned : Pinned := { name := "ytiippmhlkcbjmaa", sum := "b44513ca6d3da35aa9e0597fef86979780116381b72ca1ec926b6b5cdd47b706", checked := Try.checked }
namespace Rows
def none {H : Type} : Left H := { results := [], args := [] }

/-- 'organonlaw04.FreeBuilds': WHATEVER THE INPUT: true; the input reads as it did. -/
def freeBuildsSpec : ChangeSpec := { name := "freeBuilds", fn := fun _ => fun
  | [d1, d2, d3] => { results := [.lit (.bool true)], args := [d1, d2, d3] }
  | _ => none }
def freeBuildsRow : OpenClaim := { program := "ytiippmhlkcbjmaa", sum := "b44513ca6d3da35aa9e0597fef86979780116381b72ca1ec926b6b5cdd47b706", func := "organon/organonlaw04.FreeBuilds", spec := "freeBuilds", unfollowed := true, recurses := true, loops := true, plainKeys := false, apart := false }
def FreeBuildsSaid : Prop := freeBuildsRow.holds Try.pinned (OpenSpec.ofChange freeBuildsSpec)

/-- ITS FALSE NEIGHBOUR: 'it returns false'. Refute it at one input. -/
def freeBuildsWrong : ChangeSpec := { name := "freeBuilds", fn := fun _ => fun
  | [d1, d2, d3] => { results := [.lit (.bool false)], args := [d1, d2, d3] }
  | _ => none }
def FreeBuildsWrongFalsely : Prop := freeBuildsRow.holds Try.pinned (OpenSpec.ofChange freeBuildsWrong)

/-- 'organonlaw02.ExprOwn': WHATEVER THE INPUT: true; the input reads as it did. -/
def exprOwnSpec : ChangeSpec := { name := "exprOwn", fn := fun _ => fun
  | [d1, d2, d3] => { results := [.lit (.bool true)], args := [d1, d2, d3] }
  | _ => none }
def exprOwnRow : OpenClaim := { program := "ytiippmhlkcbjmaa", sum := "b44513ca6d3da35aa9e0597fef86979780116381b72ca1ec926b6b5cdd47b706", func := "organon/organonlaw02.ExprOwn", spec := "exprOwn", unfollowed := true, recurses := true, loops := true, plainKeys := false, apart := false }
def ExprOwnSaid : Prop := exprOwnRow.holds Try.pinned (OpenSpec.ofChange exprOwnSpec)

/-- ITS FALSE NEIGHBOUR: 'it returns false'. Refute it at one input. -/
def exprOwnWrong : ChangeSpec := { name := "exprOwn", fn := fun _ => fun
  | [d1, d2, d3] => { results := [.lit (.bool false)], args := [d1, d2, d3] }
  | _ => none }
def ExprOwnWrongFalsely : Prop := exprOwnRow.holds Try.pinned (OpenSpec.ofChange exprOwnWrong)

/-- 'organonlaw04.FreeCatches': WHATEVER THE INPUT: true; the input reads as it did. -/
def freeCatchesSpec : ChangeSpec := { name := "freeCatches", fn := fun _ => fun
  | [d1, d2, d3] => { results := [.lit (.bool true)], args := [d1, d2, d3] }
  | _ => none }
def freeCatchesRow : OpenClaim := { program := "ytiippmhlkcbjmaa", sum := "b44513ca6d3da35aa9e0597fef86979780116381b72ca1ec926b6b5cdd47b706", func := "organon/organonlaw04.FreeCatches", spec := "freeCatches", unfollowed := true, recurses := true, loops := true, plainKeys := false, apart := false }
def FreeCatchesSaid : Prop := freeCatchesRow.holds Try.pinned (OpenSpec.ofChange freeCatchesSpec)

/-- ITS FALSE NEIGHBOUR: 'it returns false'. Refute it at one input. -/
def freeCatchesWrong : ChangeSpec := { name := "freeCatches", fn := fun _ => fun
  | [d1, d2, d3] => { results := [.lit (.bool false)], args := [d1, d2, d3] }
  | _ => none }
def FreeCatchesWrongFalsely : Prop := freeCatchesRow.holds Try.pinned (OpenSpec.ofChange freeCatchesWrong)

/-- 'organonlaw08.RuleDetaches': WHATEVER THE INPUT: true; the input reads as it did. -/
def ruleDetachesSpec : ChangeSpec := { name := "ruleDetaches", fn := fun _ => fun
  | [d1, d2] => { results := [.lit (.bool true)], args := [d1, d2] }
  | _ => none }
def ruleDetachesRow : OpenClaim := { program := "ytiippmhlkcbjmaa", sum := "b44513ca6d3da35aa9e0597fef86979780116381b72ca1ec926b6b5cdd47b706", func := "organon/organonlaw08.RuleDetaches", spec := "ruleDetaches", unfollowed := true, recurses := true, loops := true, plainKeys := false, apart := false }
def RuleDetachesSaid : Prop := ruleDetachesRow.holds Try.pinned (OpenSpec.ofChange ruleDetachesSpec)

/-- ITS FALSE NEIGHBOUR: 'it returns false'. Refute it at one input. -/
def ruleDetachesWrong : ChangeSpec := { name := "ruleDetaches", fn := fun _ => fun
  | [d1, d2] => { results := [.lit (.bool false)], args := [d1, d2] }
  | _ => none }
def RuleDetachesWrongFalsely : Prop := ruleDetachesRow.holds Try.pinned (OpenSpec.ofChange ruleDetachesWrong)

/-- 'organonlaw08.RuleEquals': WHATEVER THE INPUT: true; the input reads as it did. -/
def ruleEqualsSpec : ChangeSpec := { name := "ruleEquals", fn := fun _ => fun
  | [d1, d2] => { results := [.lit (.bool true)], args := [d1, d2] }
  | _ => none }
def ruleEqualsRow : OpenClaim := { program := "ytiippmhlkcbjmaa", sum := "b44513ca6d3da35aa9e0597fef86979780116381b72ca1ec926b6b5cdd47b706", func := "organon/organonlaw08.RuleEquals", spec := "ruleEquals", unfollowed := true, recurses := true, loops := true, plainKeys := false, apart := false }
def RuleEqualsSaid : Prop := ruleEqualsRow.holds Try.pinned (OpenSpec.ofChange ruleEqualsSpec)

/-- ITS FALSE NEIGHBOUR: 'it returns false'. Refute it at one input. -/
def ruleEqualsWrong : ChangeSpec := { name := "ruleEquals", fn := fun _ => fun
  | [d1, d2] => { results := [.lit (.bool false)], args := [d1, d2] }
  | _ => none }
def RuleEqualsWrongFalsely : Prop := ruleEqualsRow.holds Try.pinned (OpenSpec.ofChange ruleEqualsWrong)

/-- 'organonlaw08.RuleSettles': WHATEVER THE INPUT: true; the input reads as it did. -/
def ruleSettlesSpec : ChangeSpec := { name := "ruleSettles", fn := fun _ => fun
  | [d] => { results := [.lit (.bool true)], args := [d] }
  | _ => none }
def ruleSettlesRow : OpenClaim := { program := "ytiippmhlkcbjmaa", sum := "b44513ca6d3da35aa9e0597fef86979780116381b72ca1ec926b6b5cdd47b706", func := "organon/organonlaw08.RuleSettles", spec := "ruleSettles", unfollowed := true, recurses := true, loops := true, plainKeys := false, apart := false }
def RuleSettlesSaid : Prop := ruleSettlesRow.holds Try.pinned (OpenSpec.ofChange ruleSettlesSpec)

/-- ITS FALSE NEIGHBOUR: 'it returns false'. Refute it at one input. -/
def ruleSettlesWrong : ChangeSpec := { name := "ruleSettles", fn := fun _ => fun
  | [d] => { results := [.lit (.bool false)], args := [d] }
  | _ => none }
def RuleSettlesWrongFalsely : Prop := ruleSettlesRow.holds Try.pinned (OpenSpec.ofChange ruleSettlesWrong)

/-- 'organonlaw02.ExprReads': WHATEVER THE INPUT: true; the input reads as it did. -/
def exprReadsSpec : ChangeSpec := { name := "exprReads", fn := fun _ => fun
  | [d] => { results := [.lit (.bool true)], args := [d] }
  | _ => none }
def exprReadsRow : OpenClaim := { program := "ytiippmhlkcbjmaa", sum := "b44513ca6d3da35aa9e0597fef86979780116381b72ca1ec926b6b5cdd47b706", func := "organon/organonlaw02.ExprReads", spec := "exprReads", unfollowed := true, recurses := true, plainKeys := false, apart := false }
def ExprReadsSaid : Prop := exprReadsRow.holds Try.pinned (OpenSpec.ofChange exprReadsSpec)

/-- ITS FALSE NEIGHBOUR: 'it returns false'. Refute it at one input. -/
def exprReadsWrong : ChangeSpec := { name := "exprReads", fn := fun _ => fun
  | [d] => { results := [.lit (.bool false)], args := [d] }
  | _ => none }
def ExprReadsWrongFalsely : Prop := exprReadsRow.holds Try.pinned (OpenSpec.ofChange exprReadsWrong)

/-- 'organonlaw02.ExprPuts': WHATEVER THE INPUT: true; the input reads as it did. -/
def exprPutsSpec : ChangeSpec := { name := "exprPuts", fn := fun _ => fun
  | [d1, d2, d3, d4] => { results := [.lit (.bool true)], args := [d1, d2, d3, d4] }
  | _ => none }
def exprPutsRow : OpenClaim := { program := "ytiippmhlkcbjmaa", sum := "b44513ca6d3da35aa9e0597fef86979780116381b72ca1ec926b6b5cdd47b706", func := "organon/organonlaw02.ExprPuts", spec := "exprPuts", unfollowed := true, recurses := true, loops := true, plainKeys := false, apart := false }
def ExprPutsSaid : Prop := exprPutsRow.holds Try.pinned (OpenSpec.ofChange exprPutsSpec)

/-- ITS FALSE NEIGHBOUR: 'it returns false'. Refute it at one input. -/
def exprPutsWrong : ChangeSpec := { name := "exprPuts", fn := fun _ => fun
  | [d1, d2, d3, d4] => { results := [.lit (.bool false)], args := [d1, d2, d3, d4] }
  | _ => none }
def ExprPutsWrongFalsely : Prop := exprPutsRow.holds Try.pinned (OpenSpec.ofChange exprPutsWrong)

/-- 'organonlaw06.InternFull': WHATEVER THE INPUT: true; the input reads as it did. -/
def internFullSpec : ChangeSpec := { name := "internFull", fn := fun _ => fun
  | [d1, d2, d3] => { results := [.lit (.bool true)], args := [d1, d2, d3] }
  | _ => none }
def internFullRow : OpenClaim := { program := "ytiippmhlkcbjmaa", sum := "b44513ca6d3da35aa9e0597fef86979780116381b72ca1ec926b6b5cdd47b706", func := "organon/organonlaw06.InternFull", spec := "internFull", unfollowed := true, recurses := true, loops := true, plainKeys := false, apart := false }
def InternFullSaid : Prop := internFullRow.holds Try.pinned (OpenSpec.ofChange internFullSpec)

/-- ITS FALSE NEIGHBOUR: 'it returns false'. Refute it at one input. -/
def internFullWrong : ChangeSpec := { name := "internFull", fn := fun _ => fun
  | [d1, d2, d3] => { results := [.lit (.bool false)], args := [d1, d2, d3] }
  | _ => none }
def InternFullWrongFalsely : Prop := internFullRow.holds Try.pinned (OpenSpec.ofChange internFullWrong)

/-- 'organonlaw04.FreeSafe': WHATEVER THE INPUT: true; the input reads as it did. -/
def freeSafeSpec : ChangeSpec := { name := "freeSafe", fn := fun _ => fun
  | [d1, d2, d3] => { results := [.lit (.bool true)], args := [d1, d2, d3] }
  | _ => none }
def freeSafeRow : OpenClaim := { program := "ytiippmhlkcbjmaa", sum := "b44513ca6d3da35aa9e0597fef86979780116381b72ca1ec926b6b5cdd47b706", func := "organon/organonlaw04.FreeSafe", spec := "freeSafe", unfollowed := true, recurses := true, loops := true, plainKeys := false, apart := false }
def FreeSafeSaid : Prop := freeSafeRow.holds Try.pinned (OpenSpec.ofChange freeSafeSpec)

/-- ITS FALSE NEIGHBOUR: 'it returns false'. Refute it at one input. -/
def freeSafeWrong : ChangeSpec := { name := "freeSafe", fn := fun _ => fun
  | [d1, d2, d3] => { results := [.lit (.bool false)], args := [d1, d2, d3] }
  | _ => none }
def FreeSafeWrongFalsely : Prop := freeSafeRow.holds Try.pinned (OpenSpec.ofChange freeSafeWrong)

/-- 'organonlaw08.RuleBuilds': WHATEVER THE INPUT: true; the input reads as it did. -/
def ruleBuildsSpec : ChangeSpec := { name := "ruleBuilds", fn := fun _ => fun
  | [d1, d2, d3] => { results := [.lit (.bool true)], args := [d1, d2, d3] }
  | _ => none }
def ruleBuildsRow : OpenClaim := { program := "ytiippmhlkcbjmaa", sum := "b44513ca6d3da35aa9e0597fef86979780116381b72ca1ec926b6b5cdd47b706", func := "organon/organonlaw08.RuleBuilds", spec := "ruleBuilds", unfollowed := true, recurses := true, loops := true, plainKeys := false, apart := false }
def RuleBuildsSaid : Prop := ruleBuildsRow.holds Try.pinned (OpenSpec.ofChange ruleBuildsSpec)

/-- ITS FALSE NEIGHBOUR: 'it returns false'. Refute it at one input. -/
def ruleBuildsWrong : ChangeSpec := { name := "ruleBuilds", fn := fun _ => fun
  | [d1, d2, d3] => { results := [.lit (.bool false)], args := [d1, d2, d3] }
  | _ => none }
def RuleBuildsWrongFalsely : Prop := ruleBuildsRow.holds Try.pinned (OpenSpec.ofChange ruleBuildsWrong)

/-- 'organonlaw04.FreeCloses': WHATEVER THE INPUT: true; the input reads as it did. -/
def freeClosesSpec : ChangeSpec := { name := "freeCloses", fn := fun _ => fun
  | [d] => { results := [.lit (.bool true)], args := [d] }
  | _ => none }
def freeClosesRow : OpenClaim := { program := "ytiippmhlkcbjmaa", sum := "b44513ca6d3da35aa9e0597fef86979780116381b72ca1ec926b6b5cdd47b706", func := "organon/organonlaw04.FreeCloses", spec := "freeCloses", unfollowed := true, recurses := true, loops := true, plainKeys := false, apart := false }
def FreeClosesSaid : Prop := freeClosesRow.holds Try.pinned (OpenSpec.ofChange freeClosesSpec)

/-- ITS FALSE NEIGHBOUR: 'it returns false'. Refute it at one input. -/
def freeClosesWrong : ChangeSpec := { name := "freeCloses", fn := fun _ => fun
  | [d] => { results := [.lit (.bool false)], args := [d] }
  | _ => none }
def FreeClosesWrongFalsely : Prop := freeClosesRow.holds Try.pinned (OpenSpec.ofChange freeClosesWrong)

/- THE SECOND FORM. 'bulk': how many values and letters a reading holds, each counted each time it is reached (what is shared counts as often as it is met; a slice's spare places count too). A statement '..UptoSaid' is the law's where the arguments, and the package variables that the reading takes, are together of bulk at most 1048576: NARROWER than '..Said'. Prove '..Said' where nothing that the law and all that it calls make is longer than what came in: it says more and counts as full. Else prove '..UptoSaid'. A law counts once. -/
mutual
def uptoBulk {H : Type} : DataW H → Nat
  | .lit (.string bytes) => bytes.length + 1
  | .lit _ => 1
  | .nil => 1
  | .ptr d => uptoBulk d + 1
  | .slice elems spare => uptoBulkAll elems + uptoBulkAll spare + 1
  | .agg parts => uptoBulkAll parts + 1
  | .iface _ d => uptoBulk d + 1
  | .map entries => uptoBulkEntries entries + 1
  | .held _ => 1
def uptoBulkAll {H : Type} : List (DataW H) → Nat
  | [] => 0
  | d :: r => uptoBulk d + uptoBulkAll r
def uptoBulkEntries {H : Type} : List (Lit × DataW H) → Nat
  | [] => 0
  | x :: r => uptoBulkEntry x + uptoBulkEntries r
def uptoBulkEntry {H : Type} : Lit × DataW H → Nat
  | (.string bytes, d) => bytes.length + uptoBulk d + 1
  | (_, d) => uptoBulk d + 1
 end
def uptoSmall : (H : Type) → List (DataW H) → Bool := fun _ ds => decide (uptoBulkAll ds ≤ 1048576)
def OpenSpec.upto (s : _root_.Go.ChangeSpec) : _root_.Go.OpenSpec := { _root_.Go.OpenSpec.ofChange s with cond := some uptoSmall }

/-- 'organonlaw04.FreeBuilds', WHERE WHAT IT READS IS OF BULK AT MOST 1048576: true; the input reads as it did. -/
def freeBuildsUptoRow : OpenClaim := { program := "ytiippmhlkcbjmaa", sum := "b44513ca6d3da35aa9e0597fef86979780116381b72ca1ec926b6b5cdd47b706", func := "organon/organonlaw04.FreeBuilds", spec := "freeBuilds", unfollowed := true, recurses := true, loops := true, plainKeys := false, apart := false, narrowed := true }
def FreeBuildsUptoSaid : Prop := freeBuildsUptoRow.holds Try.pinned (OpenSpec.upto freeBuildsSpec)

/-- 'organonlaw02.ExprOwn', WHERE WHAT IT READS IS OF BULK AT MOST 1048576: true; the input reads as it did. -/
def exprOwnUptoRow : OpenClaim := { program := "ytiippmhlkcbjmaa", sum := "b44513ca6d3da35aa9e0597fef86979780116381b72ca1ec926b6b5cdd47b706", func := "organon/organonlaw02.ExprOwn", spec := "exprOwn", unfollowed := true, recurses := true, loops := true, plainKeys := false, apart := false, narrowed := true }
def ExprOwnUptoSaid : Prop := exprOwnUptoRow.holds Try.pinned (OpenSpec.upto exprOwnSpec)

/-- 'organonlaw04.FreeCatches', WHERE WHAT IT READS IS OF BULK AT MOST 1048576: true; the input reads as it did. -/
def freeCatchesUptoRow : OpenClaim := { program := "ytiippmhlkcbjmaa", sum := "b44513ca6d3da35aa9e0597fef86979780116381b72ca1ec926b6b5cdd47b706", func := "organon/organonlaw04.FreeCatches", spec := "freeCatches", unfollowed := true, recurses := true, loops := true, plainKeys := false, apart := false, narrowed := true }
def FreeCatchesUptoSaid : Prop := freeCatchesUptoRow.holds Try.pinned (OpenSpec.upto freeCatchesSpec)

/-- 'organonlaw08.RuleDetaches', WHERE WHAT IT READS IS OF BULK AT MOST 1048576: true; the input reads as it did. -/
def ruleDetachesUptoRow : OpenClaim := { program := "ytiippmhlkcbjmaa", sum := "b44513ca6d3da35aa9e0597fef86979780116381b72ca1ec926b6b5cdd47b706", func := "organon/organonlaw08.RuleDetaches", spec := "ruleDetaches", unfollowed := true, recurses := true, loops := true, plainKeys := false, apart := false, narrowed := true }
def RuleDetachesUptoSaid : Prop := ruleDetachesUptoRow.holds Try.pinned (OpenSpec.upto ruleDetachesSpec)

/-- 'organonlaw08.RuleEquals', WHERE WHAT IT READS IS OF BULK AT MOST 1048576: true; the input reads as it did. -/
def ruleEqualsUptoRow : OpenClaim := { program := "ytiippmhlkcbjmaa", sum := "b44513ca6d3da35aa9e0597fef86979780116381b72ca1ec926b6b5cdd47b706", func := "organon/organonlaw08.RuleEquals", spec := "ruleEquals", unfollowed := true, recurses := true, loops := true, plainKeys := false, apart := false, narrowed := true }
def RuleEqualsUptoSaid : Prop := ruleEqualsUptoRow.holds Try.pinned (OpenSpec.upto ruleEqualsSpec)

/-- 'organonlaw08.RuleSettles', WHERE WHAT IT READS IS OF BULK AT MOST 1048576: true; the input reads as it did. -/
def ruleSettlesUptoRow : OpenClaim := { program := "ytiippmhlkcbjmaa", sum := "b44513ca6d3da35aa9e0597fef86979780116381b72ca1ec926b6b5cdd47b706", func := "organon/organonlaw08.RuleSettles", spec := "ruleSettles", unfollowed := true, recurses := true, loops := true, plainKeys := false, apart := false, narrowed := true }
def RuleSettlesUptoSaid : Prop := ruleSettlesUptoRow.holds Try.pinned (OpenSpec.upto ruleSettlesSpec)

/-- 'organonlaw02.ExprReads', WHERE WHAT IT READS IS OF BULK AT MOST 1048576: true; the input reads as it did. -/
def exprReadsUptoRow : OpenClaim := { program := "ytiippmhlkcbjmaa", sum := "b44513ca6d3da35aa9e0597fef86979780116381b72ca1ec926b6b5cdd47b706", func := "organon/organonlaw02.ExprReads", spec := "exprReads", unfollowed := true, recurses := true, plainKeys := false, apart := false, narrowed := true }
def ExprReadsUptoSaid : Prop := exprReadsUptoRow.holds Try.pinned (OpenSpec.upto exprReadsSpec)

/-- 'organonlaw02.ExprPuts', WHERE WHAT IT READS IS OF BULK AT MOST 1048576: true; the input reads as it did. -/
def exprPutsUptoRow : OpenClaim := { program := "ytiippmhlkcbjmaa", sum := "b44513ca6d3da35aa9e0597fef86979780116381b72ca1ec926b6b5cdd47b706", func := "organon/organonlaw02.ExprPuts", spec := "exprPuts", unfollowed := true, recurses := true, loops := true, plainKeys := false, apart := false, narrowed := true }
def ExprPutsUptoSaid : Prop := exprPutsUptoRow.holds Try.pinned (OpenSpec.upto exprPutsSpec)

/-- 'organonlaw06.InternFull', WHERE WHAT IT READS IS OF BULK AT MOST 1048576: true; the input reads as it did. -/
def internFullUptoRow : OpenClaim := { program := "ytiippmhlkcbjmaa", sum := "b44513ca6d3da35aa9e0597fef86979780116381b72ca1ec926b6b5cdd47b706", func := "organon/organonlaw06.InternFull", spec := "internFull", unfollowed := true, recurses := true, loops := true, plainKeys := false, apart := false, narrowed := true }
def InternFullUptoSaid : Prop := internFullUptoRow.holds Try.pinned (OpenSpec.upto internFullSpec)

/-- 'organonlaw04.FreeSafe', WHERE WHAT IT READS IS OF BULK AT MOST 1048576: true; the input reads as it did. -/
def freeSafeUptoRow : OpenClaim := { program := "ytiippmhlkcbjmaa", sum := "b44513ca6d3da35aa9e0597fef86979780116381b72ca1ec926b6b5cdd47b706", func := "organon/organonlaw04.FreeSafe", spec := "freeSafe", unfollowed := true, recurses := true, loops := true, plainKeys := false, apart := false, narrowed := true }
def FreeSafeUptoSaid : Prop := freeSafeUptoRow.holds Try.pinned (OpenSpec.upto freeSafeSpec)

/-- 'organonlaw08.RuleBuilds', WHERE WHAT IT READS IS OF BULK AT MOST 1048576: true; the input reads as it did. -/
def ruleBuildsUptoRow : OpenClaim := { program := "ytiippmhlkcbjmaa", sum := "b44513ca6d3da35aa9e0597fef86979780116381b72ca1ec926b6b5cdd47b706", func := "organon/organonlaw08.RuleBuilds", spec := "ruleBuilds", unfollowed := true, recurses := true, loops := true, plainKeys := false, apart := false, narrowed := true }
def RuleBuildsUptoSaid : Prop := ruleBuildsUptoRow.holds Try.pinned (OpenSpec.upto ruleBuildsSpec)

/-- 'organonlaw04.FreeCloses', WHERE WHAT IT READS IS OF BULK AT MOST 1048576: true; the input reads as it did. -/
def freeClosesUptoRow : OpenClaim := { program := "ytiippmhlkcbjmaa", sum := "b44513ca6d3da35aa9e0597fef86979780116381b72ca1ec926b6b5cdd47b706", func := "organon/organonlaw04.FreeCloses", spec := "freeCloses", unfollowed := true, recurses := true, loops := true, plainKeys := false, apart := false, narrowed := true }
def FreeClosesUptoSaid : Prop := freeClosesUptoRow.holds Try.pinned (OpenSpec.upto freeClosesSpec)

end Rows
end Go.Proofs.Ytiippmhlkcbjmaa
