/-
  NARROWER THAN 'FOR EVERY INPUT', by the rows' own cells (each row's printed sentence says how): SubstPuts: loops · SubstRests: loops · SubstLemma: loops · SubstEachs: loops · SubstTurns: loops · SubstOnce: loops · ModelValids: loops · SchemaPuts: loops.
  DERIVED. THE GIVEN ROWS OF THIS SEAT. 8 by the template 'for every input the law returns true; each argument reads behind the call as it read before'; 0 by the template 'total and deterministic' (their statements: YtdnhgabopdcjoaaTotals.lean).
  GIVEN WITH THE SEED: the statements are not yours to turn. If you find one false, say at which input.
  Laid BY PROGRAM, IN A SANDBOX (cutbox-rows.mjs): the forced cells as the released guide's own fill.sh prints them over the translation 4010fcdd3717da03… (all of the seat's roots in one cut). By AI agents, Wed Nov 11 2026. No macro, syntax, notation, axiom, sorry.
-/
import Derived.Test.YtdnhgabopdcjoaaChecked
import GoSem.Claim
import GoSem.ClaimJoined
import GoSem.ClaimMapViews
import Derived.JoinedTies
import Derived.KernelRfl
namespace Go.Proofs.Ytdnhgabopdcjoaa
/- THE CELL 'sum', in the pinned program and in every row, IS THE sha256 OF THE DUMP (.gsa) THAT YtdnhgabopdcjoaaProg.lean LOADS. Nothing in Lean hashes anything: it is a label: what it is worth is what the hold of that sum in a sandbox is worth. -/
noncomputable def Try.pinned : Pinned := { name := "ytdnhgabopdcjoaa", sum := "4010fcdd3717da03552faa3cb9bf2686a9cfd2cfa29291cb9d8ae15086c91a35", checked := Try.checked }
namespace Rows
def none {H : Type} : Left H := { results := [], args := [] }

/-- 'organonlaw05.SubstPuts': WHATEVER THE INPUT: true; the input reads as it did. -/
def substPutsSpec : ChangeSpec := { name := "substPuts", fn := fun _ => fun
  | [d1, d2, d3] => { results := [.lit (.bool true)], args := [d1, d2, d3] }
  | _ => none }
def substPutsRow : OpenClaim := { program := "ytdnhgabopdcjoaa", sum := "4010fcdd3717da03552faa3cb9bf2686a9cfd2cfa29291cb9d8ae15086c91a35", func := "organon/organonlaw05.SubstPuts", spec := "substPuts", unfollowed := true, recurses := true, loops := true, apart := false }
def SubstPutsSaid : Prop := substPutsRow.holds Try.pinned (OpenSpec.ofChange substPutsSpec)

/-- ITS FALSE NEIGHBOUR: 'it returns false'. Refute it at one input. -/
def substPutsWrong : ChangeSpec := { name := "substPuts", fn := fun _ => fun
  | [d1, d2, d3] => { results := [.lit (.bool false)], args := [d1, d2, d3] }
  | _ => none }
def SubstPutsWrongFalsely : Prop := substPutsRow.holds Try.pinned (OpenSpec.ofChange substPutsWrong)

/-- 'organonlaw05.SubstRests': WHATEVER THE INPUT: true; the input reads as it did. -/
def substRestsSpec : ChangeSpec := { name := "substRests", fn := fun _ => fun
  | [d1, d2, d3] => { results := [.lit (.bool true)], args := [d1, d2, d3] }
  | _ => none }
def substRestsRow : OpenClaim := { program := "ytdnhgabopdcjoaa", sum := "4010fcdd3717da03552faa3cb9bf2686a9cfd2cfa29291cb9d8ae15086c91a35", func := "organon/organonlaw05.SubstRests", spec := "substRests", unfollowed := true, recurses := true, loops := true, apart := false }
def SubstRestsSaid : Prop := substRestsRow.holds Try.pinned (OpenSpec.ofChange substRestsSpec)

/-- ITS FALSE NEIGHBOUR: 'it returns false'. Refute it at one input. -/
def substRestsWrong : ChangeSpec := { name := "substRests", fn := fun _ => fun
  | [d1, d2, d3] => { results := [.lit (.bool false)], args := [d1, d2, d3] }
  | _ => none }
def SubstRestsWrongFalsely : Prop := substRestsRow.holds Try.pinned (OpenSpec.ofChange substRestsWrong)

/-- 'organonlaw05.SubstLemma': WHATEVER THE INPUT: true; the input reads as it did. -/
def substLemmaSpec : ChangeSpec := { name := "substLemma", fn := fun _ => fun
  | [d1, d2, d3] => { results := [.lit (.bool true)], args := [d1, d2, d3] }
  | _ => none }
def substLemmaRow : OpenClaim := { program := "ytdnhgabopdcjoaa", sum := "4010fcdd3717da03552faa3cb9bf2686a9cfd2cfa29291cb9d8ae15086c91a35", func := "organon/organonlaw05.SubstLemma", spec := "substLemma", unfollowed := true, recurses := true, loops := true, apart := false }
def SubstLemmaSaid : Prop := substLemmaRow.holds Try.pinned (OpenSpec.ofChange substLemmaSpec)

/-- ITS FALSE NEIGHBOUR: 'it returns false'. Refute it at one input. -/
def substLemmaWrong : ChangeSpec := { name := "substLemma", fn := fun _ => fun
  | [d1, d2, d3] => { results := [.lit (.bool false)], args := [d1, d2, d3] }
  | _ => none }
def SubstLemmaWrongFalsely : Prop := substLemmaRow.holds Try.pinned (OpenSpec.ofChange substLemmaWrong)

/-- 'organonlaw05.SubstEachs': WHATEVER THE INPUT: true; the input reads as it did. -/
def substEachsSpec : ChangeSpec := { name := "substEachs", fn := fun _ => fun
  | [d1, d2] => { results := [.lit (.bool true)], args := [d1, d2] }
  | _ => none }
def substEachsRow : OpenClaim := { program := "ytdnhgabopdcjoaa", sum := "4010fcdd3717da03552faa3cb9bf2686a9cfd2cfa29291cb9d8ae15086c91a35", func := "organon/organonlaw05.SubstEachs", spec := "substEachs", unfollowed := true, recurses := true, loops := true, apart := false }
def SubstEachsSaid : Prop := substEachsRow.holds Try.pinned (OpenSpec.ofChange substEachsSpec)

/-- ITS FALSE NEIGHBOUR: 'it returns false'. Refute it at one input. -/
def substEachsWrong : ChangeSpec := { name := "substEachs", fn := fun _ => fun
  | [d1, d2] => { results := [.lit (.bool false)], args := [d1, d2] }
  | _ => none }
def SubstEachsWrongFalsely : Prop := substEachsRow.holds Try.pinned (OpenSpec.ofChange substEachsWrong)

/-- 'organonlaw05.SubstTurns': WHATEVER THE INPUT: true; the input reads as it did. -/
def substTurnsSpec : ChangeSpec := { name := "substTurns", fn := fun _ => fun
  | [d1, d2, d3] => { results := [.lit (.bool true)], args := [d1, d2, d3] }
  | _ => none }
def substTurnsRow : OpenClaim := { program := "ytdnhgabopdcjoaa", sum := "4010fcdd3717da03552faa3cb9bf2686a9cfd2cfa29291cb9d8ae15086c91a35", func := "organon/organonlaw05.SubstTurns", spec := "substTurns", unfollowed := true, recurses := true, loops := true, apart := false }
def SubstTurnsSaid : Prop := substTurnsRow.holds Try.pinned (OpenSpec.ofChange substTurnsSpec)

/-- ITS FALSE NEIGHBOUR: 'it returns false'. Refute it at one input. -/
def substTurnsWrong : ChangeSpec := { name := "substTurns", fn := fun _ => fun
  | [d1, d2, d3] => { results := [.lit (.bool false)], args := [d1, d2, d3] }
  | _ => none }
def SubstTurnsWrongFalsely : Prop := substTurnsRow.holds Try.pinned (OpenSpec.ofChange substTurnsWrong)

/-- 'organonlaw05.SubstOnce': WHATEVER THE INPUT: true; the input reads as it did. -/
def substOnceSpec : ChangeSpec := { name := "substOnce", fn := fun _ => fun
  | [d1, d2, d3] => { results := [.lit (.bool true)], args := [d1, d2, d3] }
  | _ => none }
def substOnceRow : OpenClaim := { program := "ytdnhgabopdcjoaa", sum := "4010fcdd3717da03552faa3cb9bf2686a9cfd2cfa29291cb9d8ae15086c91a35", func := "organon/organonlaw05.SubstOnce", spec := "substOnce", unfollowed := true, recurses := true, loops := true, apart := false }
def SubstOnceSaid : Prop := substOnceRow.holds Try.pinned (OpenSpec.ofChange substOnceSpec)

/-- ITS FALSE NEIGHBOUR: 'it returns false'. Refute it at one input. -/
def substOnceWrong : ChangeSpec := { name := "substOnce", fn := fun _ => fun
  | [d1, d2, d3] => { results := [.lit (.bool false)], args := [d1, d2, d3] }
  | _ => none }
def SubstOnceWrongFalsely : Prop := substOnceRow.holds Try.pinned (OpenSpec.ofChange substOnceWrong)

/-- 'organonlaw24.ModelValids': WHATEVER THE INPUT: true; the input reads as it did. -/
def modelValidsSpec : ChangeSpec := { name := "modelValids", fn := fun _ => fun
  | [d1, d2] => { results := [.lit (.bool true)], args := [d1, d2] }
  | _ => none }
def modelValidsRow : OpenClaim := { program := "ytdnhgabopdcjoaa", sum := "4010fcdd3717da03552faa3cb9bf2686a9cfd2cfa29291cb9d8ae15086c91a35", func := "organon/organonlaw24.ModelValids", spec := "modelValids", unfollowed := true, recurses := true, loops := true, apart := false }
def ModelValidsSaid : Prop := modelValidsRow.holds Try.pinned (OpenSpec.ofChange modelValidsSpec)

/-- ITS FALSE NEIGHBOUR: 'it returns false'. Refute it at one input. -/
def modelValidsWrong : ChangeSpec := { name := "modelValids", fn := fun _ => fun
  | [d1, d2] => { results := [.lit (.bool false)], args := [d1, d2] }
  | _ => none }
def ModelValidsWrongFalsely : Prop := modelValidsRow.holds Try.pinned (OpenSpec.ofChange modelValidsWrong)

/-- 'organonlaw07.SchemaPuts': WHATEVER THE INPUT: true; the input reads as it did. -/
def schemaPutsSpec : ChangeSpec := { name := "schemaPuts", fn := fun _ => fun
  | [d1, d2, d3, d4] => { results := [.lit (.bool true)], args := [d1, d2, d3, d4] }
  | _ => none }
def schemaPutsRow : OpenClaim := { program := "ytdnhgabopdcjoaa", sum := "4010fcdd3717da03552faa3cb9bf2686a9cfd2cfa29291cb9d8ae15086c91a35", func := "organon/organonlaw07.SchemaPuts", spec := "schemaPuts", unfollowed := true, recurses := true, loops := true, apart := false }
def SchemaPutsSaid : Prop := schemaPutsRow.holds Try.pinned (OpenSpec.ofChange schemaPutsSpec)

/-- ITS FALSE NEIGHBOUR: 'it returns false'. Refute it at one input. -/
def schemaPutsWrong : ChangeSpec := { name := "schemaPuts", fn := fun _ => fun
  | [d1, d2, d3, d4] => { results := [.lit (.bool false)], args := [d1, d2, d3, d4] }
  | _ => none }
def SchemaPutsWrongFalsely : Prop := schemaPutsRow.holds Try.pinned (OpenSpec.ofChange schemaPutsWrong)

/- THE SECOND FORM. 'bulk': how many values and letters a reading holds, each counted each time it is reached (what is shared counts as often as it is met; a slice's spare places count too). A statement '..UptoSaid' is the law's where the arguments, and the package variables that the reading takes, are together of bulk at most 1048576: NARROWER than '..Said'. Prove '..Said' where nothing that the law and all that it calls make is longer than what came in: it says more and counts as full. Else prove '..UptoSaid'. A law counts once. -/
mutual
def uptoBulk {H : Type} : DataW H → Nat
  | .lit (.string bytes) => bytes.length + 1
  | .lit _ => 1
  | .nil => 1
  | .ptr d => uptoBulk d + 1
  | .slice elems spare => uptoBulkAll elems + uptoBulkAll spare + 1
  | .agg parts => uptoBulkAll parts + 1
  | .iface _ d => uptoBulk d + 1
  | .map entries => uptoBulkEntries entries + 1
  | .held _ => 1
def uptoBulkAll {H : Type} : List (DataW H) → Nat
  | [] => 0
  | d :: r => uptoBulk d + uptoBulkAll r
def uptoBulkEntries {H : Type} : List (Lit × DataW H) → Nat
  | [] => 0
  | x :: r => uptoBulkEntry x + uptoBulkEntries r
def uptoBulkEntry {H : Type} : Lit × DataW H → Nat
  | (.string bytes, d) => bytes.length + uptoBulk d + 1
  | (_, d) => uptoBulk d + 1
 end
def uptoSmall : (H : Type) → List (DataW H) → Bool := fun _ ds => decide (uptoBulkAll ds ≤ 1048576)
def OpenSpec.upto (s : _root_.Go.ChangeSpec) : _root_.Go.OpenSpec := { _root_.Go.OpenSpec.ofChange s with cond := some uptoSmall }

/-- 'organonlaw05.SubstPuts', WHERE WHAT IT READS IS OF BULK AT MOST 1048576: true; the input reads as it did. -/
def substPutsUptoRow : OpenClaim := { program := "ytdnhgabopdcjoaa", sum := "4010fcdd3717da03552faa3cb9bf2686a9cfd2cfa29291cb9d8ae15086c91a35", func := "organon/organonlaw05.SubstPuts", spec := "substPuts", unfollowed := true, recurses := true, loops := true, apart := false, narrowed := true }
def SubstPutsUptoSaid : Prop := substPutsUptoRow.holds Try.pinned (OpenSpec.upto substPutsSpec)

/-- 'organonlaw05.SubstRests', WHERE WHAT IT READS IS OF BULK AT MOST 1048576: true; the input reads as it did. -/
def substRestsUptoRow : OpenClaim := { program := "ytdnhgabopdcjoaa", sum := "4010fcdd3717da03552faa3cb9bf2686a9cfd2cfa29291cb9d8ae15086c91a35", func := "organon/organonlaw05.SubstRests", spec := "substRests", unfollowed := true, recurses := true, loops := true, apart := false, narrowed := true }
def SubstRestsUptoSaid : Prop := substRestsUptoRow.holds Try.pinned (OpenSpec.upto substRestsSpec)

/-- 'organonlaw05.SubstLemma', WHERE WHAT IT READS IS OF BULK AT MOST 1048576: true; the input reads as it did. -/
def substLemmaUptoRow : OpenClaim := { program := "ytdnhgabopdcjoaa", sum := "4010fcdd3717da03552faa3cb9bf2686a9cfd2cfa29291cb9d8ae15086c91a35", func := "organon/organonlaw05.SubstLemma", spec := "substLemma", unfollowed := true, recurses := true, loops := true, apart := false, narrowed := true }
def SubstLemmaUptoSaid : Prop := substLemmaUptoRow.holds Try.pinned (OpenSpec.upto substLemmaSpec)

/-- 'organonlaw05.SubstEachs', WHERE WHAT IT READS IS OF BULK AT MOST 1048576: true; the input reads as it did. -/
def substEachsUptoRow : OpenClaim := { program := "ytdnhgabopdcjoaa", sum := "4010fcdd3717da03552faa3cb9bf2686a9cfd2cfa29291cb9d8ae15086c91a35", func := "organon/organonlaw05.SubstEachs", spec := "substEachs", unfollowed := true, recurses := true, loops := true, apart := false, narrowed := true }
def SubstEachsUptoSaid : Prop := substEachsUptoRow.holds Try.pinned (OpenSpec.upto substEachsSpec)

/-- 'organonlaw05.SubstTurns', WHERE WHAT IT READS IS OF BULK AT MOST 1048576: true; the input reads as it did. -/
def substTurnsUptoRow : OpenClaim := { program := "ytdnhgabopdcjoaa", sum := "4010fcdd3717da03552faa3cb9bf2686a9cfd2cfa29291cb9d8ae15086c91a35", func := "organon/organonlaw05.SubstTurns", spec := "substTurns", unfollowed := true, recurses := true, loops := true, apart := false, narrowed := true }
def SubstTurnsUptoSaid : Prop := substTurnsUptoRow.holds Try.pinned (OpenSpec.upto substTurnsSpec)

/-- 'organonlaw05.SubstOnce', WHERE WHAT IT READS IS OF BULK AT MOST 1048576: true; the input reads as it did. -/
def substOnceUptoRow : OpenClaim := { program := "ytdnhgabopdcjoaa", sum := "4010fcdd3717da03552faa3cb9bf2686a9cfd2cfa29291cb9d8ae15086c91a35", func := "organon/organonlaw05.SubstOnce", spec := "substOnce", unfollowed := true, recurses := true, loops := true, apart := false, narrowed := true }
def SubstOnceUptoSaid : Prop := substOnceUptoRow.holds Try.pinned (OpenSpec.upto substOnceSpec)

/-- 'organonlaw24.ModelValids', WHERE WHAT IT READS IS OF BULK AT MOST 1048576: true; the input reads as it did. -/
def modelValidsUptoRow : OpenClaim := { program := "ytdnhgabopdcjoaa", sum := "4010fcdd3717da03552faa3cb9bf2686a9cfd2cfa29291cb9d8ae15086c91a35", func := "organon/organonlaw24.ModelValids", spec := "modelValids", unfollowed := true, recurses := true, loops := true, apart := false, narrowed := true }
def ModelValidsUptoSaid : Prop := modelValidsUptoRow.holds Try.pinned (OpenSpec.upto modelValidsSpec)

/-- 'organonlaw07.SchemaPuts', WHERE WHAT IT READS IS OF BULK AT MOST 1048576: true; the input reads as it did. -/
def schemaPutsUptoRow : OpenClaim := { program := "ytdnhgabopdcjoaa", sum := "4010fcdd3717da03552faa3cb9bf2686a9cfd2cfa29291cb9d8ae15086c91a35", func := "organon/organonlaw07.SchemaPuts", spec := "schemaPuts", unfollowed := true, recurses := true, loops := true, apart := false, narrowed := true }
def SchemaPutsUptoSaid : Prop := schemaPutsUptoRow.holds Try.pinned (OpenSpec.upto schemaPutsSpec)

end Rows
end Go.Proofs.Ytdnhgabopdcjoaa
