/-
  NARROWER THAN 'FOR EVERY INPUT', by the rows' own cells (each row's printed sentence says how): SchemaMakes: loops · SchemaWhich: loops · SchemaOwn: loops · SchemaParts: loops · SchemaBack: loops · ModelAxioms: loops · DeductChains: loops · DeductLinks: loops · ModelDerived: loops · DeductDoes: loops · DeductTheorem: loops · DeductTwice: loops · DeductOwn: loops.
  DERIVED. THE GIVEN ROWS OF THIS SEAT. 13 by the template 'for every input the law returns true; each argument reads behind the call as it read before'; 0 by the template 'total and deterministic' (their statements: YtibfdebhbibfpaaGreatTotals.lean).
  GIVEN WITH THE SEED: the statements are not yours to turn. If you find one false, say at which input.
  Laid BY PROGRAM, IN A SANDBOX (cutbox-rows.mjs): the forced cells as the released guide's own fill.sh prints them over the translation 76fd09cc1d3048fb… (all of the seat's roots in one cut). By AI agents, Wed Nov 11 2026. No macro, syntax, notation, axiom, sorry.
-/
import Derived.Test.YtibfdebhbibfpaaGreatChecked
import GoSem.Claim
import GoSem.ClaimJoined
import GoSem.ClaimMapViews
import Derived.JoinedTies
import Derived.KernelRfl
namespace Go.Proofs.YtibfdebhbibfpaaGreat
/- THE CELL 'sum', in the pinned program and in every row, IS THE sha256 OF THE DUMP (.gsa) THAT YtibfdebhbibfpaaGreatProg.lean LOADS. Nothing in Lean hashes anything: it is a label: what it is worth is what the hold of that sum in a sandbox is worth. -/
noncomputable def Tryz.pinned : Pinned := { name := "ytibfdebhbibfpaagreat", sum := "76fd09cc1d3048fb032317d9e8ad69ccbdda09d87166ed4d92f52de68343fac0", checked := Tryz.checked }
namespace Rows
def none {H : Type} : Left H := { results := [], args := [] }

/-- 'organonlaw07.SchemaMakes': WHATEVER THE INPUT: true; the input reads as it did. -/
def schemaMakesSpec : ChangeSpec := { name := "schemaMakes", fn := fun _ => fun
  | [d1, d2] => { results := [.lit (.bool true)], args := [d1, d2] }
  | _ => none }
def schemaMakesRow : OpenClaim := { program := "ytibfdebhbibfpaagreat", sum := "76fd09cc1d3048fb032317d9e8ad69ccbdda09d87166ed4d92f52de68343fac0", func := "organon/organonlaw07.SchemaMakes", spec := "schemaMakes", unfollowed := true, recurses := true, loops := true, apart := false }
def SchemaMakesSaid : Prop := schemaMakesRow.holds Tryz.pinned (OpenSpec.ofChange schemaMakesSpec)

/-- ITS FALSE NEIGHBOUR: 'it returns false'. Refute it at one input. -/
def schemaMakesWrong : ChangeSpec := { name := "schemaMakes", fn := fun _ => fun
  | [d1, d2] => { results := [.lit (.bool false)], args := [d1, d2] }
  | _ => none }
def SchemaMakesWrongFalsely : Prop := schemaMakesRow.holds Tryz.pinned (OpenSpec.ofChange schemaMakesWrong)

/-- 'organonlaw07.SchemaWhich': WHATEVER THE INPUT: true; the input reads as it did. -/
def schemaWhichSpec : ChangeSpec := { name := "schemaWhich", fn := fun _ => fun
  | [d] => { results := [.lit (.bool true)], args := [d] }
  | _ => none }
def schemaWhichRow : OpenClaim := { program := "ytibfdebhbibfpaagreat", sum := "76fd09cc1d3048fb032317d9e8ad69ccbdda09d87166ed4d92f52de68343fac0", func := "organon/organonlaw07.SchemaWhich", spec := "schemaWhich", unfollowed := true, recurses := true, loops := true, apart := false }
def SchemaWhichSaid : Prop := schemaWhichRow.holds Tryz.pinned (OpenSpec.ofChange schemaWhichSpec)

/-- ITS FALSE NEIGHBOUR: 'it returns false'. Refute it at one input. -/
def schemaWhichWrong : ChangeSpec := { name := "schemaWhich", fn := fun _ => fun
  | [d] => { results := [.lit (.bool false)], args := [d] }
  | _ => none }
def SchemaWhichWrongFalsely : Prop := schemaWhichRow.holds Tryz.pinned (OpenSpec.ofChange schemaWhichWrong)

/-- 'organonlaw07.SchemaOwn': WHATEVER THE INPUT: true; the input reads as it did. -/
def schemaOwnSpec : ChangeSpec := { name := "schemaOwn", fn := fun _ => fun
  | [d1, d2] => { results := [.lit (.bool true)], args := [d1, d2] }
  | _ => none }
def schemaOwnRow : OpenClaim := { program := "ytibfdebhbibfpaagreat", sum := "76fd09cc1d3048fb032317d9e8ad69ccbdda09d87166ed4d92f52de68343fac0", func := "organon/organonlaw07.SchemaOwn", spec := "schemaOwn", unfollowed := true, recurses := true, loops := true, apart := false }
def SchemaOwnSaid : Prop := schemaOwnRow.holds Tryz.pinned (OpenSpec.ofChange schemaOwnSpec)

/-- ITS FALSE NEIGHBOUR: 'it returns false'. Refute it at one input. -/
def schemaOwnWrong : ChangeSpec := { name := "schemaOwn", fn := fun _ => fun
  | [d1, d2] => { results := [.lit (.bool false)], args := [d1, d2] }
  | _ => none }
def SchemaOwnWrongFalsely : Prop := schemaOwnRow.holds Tryz.pinned (OpenSpec.ofChange schemaOwnWrong)

/-- 'organonlaw07.SchemaParts': WHATEVER THE INPUT: true; the input reads as it did. -/
def schemaPartsSpec : ChangeSpec := { name := "schemaParts", fn := fun _ => fun
  | [d1, d2] => { results := [.lit (.bool true)], args := [d1, d2] }
  | _ => none }
def schemaPartsRow : OpenClaim := { program := "ytibfdebhbibfpaagreat", sum := "76fd09cc1d3048fb032317d9e8ad69ccbdda09d87166ed4d92f52de68343fac0", func := "organon/organonlaw07.SchemaParts", spec := "schemaParts", unfollowed := true, recurses := true, loops := true, apart := false }
def SchemaPartsSaid : Prop := schemaPartsRow.holds Tryz.pinned (OpenSpec.ofChange schemaPartsSpec)

/-- ITS FALSE NEIGHBOUR: 'it returns false'. Refute it at one input. -/
def schemaPartsWrong : ChangeSpec := { name := "schemaParts", fn := fun _ => fun
  | [d1, d2] => { results := [.lit (.bool false)], args := [d1, d2] }
  | _ => none }
def SchemaPartsWrongFalsely : Prop := schemaPartsRow.holds Tryz.pinned (OpenSpec.ofChange schemaPartsWrong)

/-- 'organonlaw07.SchemaBack': WHATEVER THE INPUT: true; the input reads as it did. -/
def schemaBackSpec : ChangeSpec := { name := "schemaBack", fn := fun _ => fun
  | [d1, d2] => { results := [.lit (.bool true)], args := [d1, d2] }
  | _ => none }
def schemaBackRow : OpenClaim := { program := "ytibfdebhbibfpaagreat", sum := "76fd09cc1d3048fb032317d9e8ad69ccbdda09d87166ed4d92f52de68343fac0", func := "organon/organonlaw07.SchemaBack", spec := "schemaBack", unfollowed := true, recurses := true, loops := true, apart := false }
def SchemaBackSaid : Prop := schemaBackRow.holds Tryz.pinned (OpenSpec.ofChange schemaBackSpec)

/-- ITS FALSE NEIGHBOUR: 'it returns false'. Refute it at one input. -/
def schemaBackWrong : ChangeSpec := { name := "schemaBack", fn := fun _ => fun
  | [d1, d2] => { results := [.lit (.bool false)], args := [d1, d2] }
  | _ => none }
def SchemaBackWrongFalsely : Prop := schemaBackRow.holds Tryz.pinned (OpenSpec.ofChange schemaBackWrong)

/-- 'organonlaw24.ModelAxioms': WHATEVER THE INPUT: true; the input reads as it did. -/
def modelAxiomsSpec : ChangeSpec := { name := "modelAxioms", fn := fun _ => fun
  | [d1, d2, d3] => { results := [.lit (.bool true)], args := [d1, d2, d3] }
  | _ => none }
def modelAxiomsRow : OpenClaim := { program := "ytibfdebhbibfpaagreat", sum := "76fd09cc1d3048fb032317d9e8ad69ccbdda09d87166ed4d92f52de68343fac0", func := "organon/organonlaw24.ModelAxioms", spec := "modelAxioms", unfollowed := true, recurses := true, loops := true, apart := false }
def ModelAxiomsSaid : Prop := modelAxiomsRow.holds Tryz.pinned (OpenSpec.ofChange modelAxiomsSpec)

/-- ITS FALSE NEIGHBOUR: 'it returns false'. Refute it at one input. -/
def modelAxiomsWrong : ChangeSpec := { name := "modelAxioms", fn := fun _ => fun
  | [d1, d2, d3] => { results := [.lit (.bool false)], args := [d1, d2, d3] }
  | _ => none }
def ModelAxiomsWrongFalsely : Prop := modelAxiomsRow.holds Tryz.pinned (OpenSpec.ofChange modelAxiomsWrong)

/-- 'organonlaw23.DeductChains': WHATEVER THE INPUT: true; the input reads as it did. -/
def deductChainsSpec : ChangeSpec := { name := "deductChains", fn := fun _ => fun
  | [d1, d2] => { results := [.lit (.bool true)], args := [d1, d2] }
  | _ => none }
def deductChainsRow : OpenClaim := { program := "ytibfdebhbibfpaagreat", sum := "76fd09cc1d3048fb032317d9e8ad69ccbdda09d87166ed4d92f52de68343fac0", func := "organon/organonlaw23.DeductChains", spec := "deductChains", unfollowed := true, recurses := true, loops := true, apart := false }
def DeductChainsSaid : Prop := deductChainsRow.holds Tryz.pinned (OpenSpec.ofChange deductChainsSpec)

/-- ITS FALSE NEIGHBOUR: 'it returns false'. Refute it at one input. -/
def deductChainsWrong : ChangeSpec := { name := "deductChains", fn := fun _ => fun
  | [d1, d2] => { results := [.lit (.bool false)], args := [d1, d2] }
  | _ => none }
def DeductChainsWrongFalsely : Prop := deductChainsRow.holds Tryz.pinned (OpenSpec.ofChange deductChainsWrong)

/-- 'organonlaw23.DeductLinks': WHATEVER THE INPUT: true; the input reads as it did. -/
def deductLinksSpec : ChangeSpec := { name := "deductLinks", fn := fun _ => fun
  | [d1, d2, d3] => { results := [.lit (.bool true)], args := [d1, d2, d3] }
  | _ => none }
def deductLinksRow : OpenClaim := { program := "ytibfdebhbibfpaagreat", sum := "76fd09cc1d3048fb032317d9e8ad69ccbdda09d87166ed4d92f52de68343fac0", func := "organon/organonlaw23.DeductLinks", spec := "deductLinks", unfollowed := true, recurses := true, loops := true, apart := false }
def DeductLinksSaid : Prop := deductLinksRow.holds Tryz.pinned (OpenSpec.ofChange deductLinksSpec)

/-- ITS FALSE NEIGHBOUR: 'it returns false'. Refute it at one input. -/
def deductLinksWrong : ChangeSpec := { name := "deductLinks", fn := fun _ => fun
  | [d1, d2, d3] => { results := [.lit (.bool false)], args := [d1, d2, d3] }
  | _ => none }
def DeductLinksWrongFalsely : Prop := deductLinksRow.holds Tryz.pinned (OpenSpec.ofChange deductLinksWrong)

/-- 'organonlaw24.ModelDerived': WHATEVER THE INPUT: true; the input reads as it did. -/
def modelDerivedSpec : ChangeSpec := { name := "modelDerived", fn := fun _ => fun
  | [d1, d2] => { results := [.lit (.bool true)], args := [d1, d2] }
  | _ => none }
def modelDerivedRow : OpenClaim := { program := "ytibfdebhbibfpaagreat", sum := "76fd09cc1d3048fb032317d9e8ad69ccbdda09d87166ed4d92f52de68343fac0", func := "organon/organonlaw24.ModelDerived", spec := "modelDerived", unfollowed := true, recurses := true, loops := true, apart := false }
def ModelDerivedSaid : Prop := modelDerivedRow.holds Tryz.pinned (OpenSpec.ofChange modelDerivedSpec)

/-- ITS FALSE NEIGHBOUR: 'it returns false'. Refute it at one input. -/
def modelDerivedWrong : ChangeSpec := { name := "modelDerived", fn := fun _ => fun
  | [d1, d2] => { results := [.lit (.bool false)], args := [d1, d2] }
  | _ => none }
def ModelDerivedWrongFalsely : Prop := modelDerivedRow.holds Tryz.pinned (OpenSpec.ofChange modelDerivedWrong)

/-- 'organonlaw23.DeductDoes': WHATEVER THE INPUT: true; the input reads as it did. -/
def deductDoesSpec : ChangeSpec := { name := "deductDoes", fn := fun _ => fun
  | [d1, d2] => { results := [.lit (.bool true)], args := [d1, d2] }
  | _ => none }
def deductDoesRow : OpenClaim := { program := "ytibfdebhbibfpaagreat", sum := "76fd09cc1d3048fb032317d9e8ad69ccbdda09d87166ed4d92f52de68343fac0", func := "organon/organonlaw23.DeductDoes", spec := "deductDoes", unfollowed := true, recurses := true, loops := true, apart := false }
def DeductDoesSaid : Prop := deductDoesRow.holds Tryz.pinned (OpenSpec.ofChange deductDoesSpec)

/-- ITS FALSE NEIGHBOUR: 'it returns false'. Refute it at one input. -/
def deductDoesWrong : ChangeSpec := { name := "deductDoes", fn := fun _ => fun
  | [d1, d2] => { results := [.lit (.bool false)], args := [d1, d2] }
  | _ => none }
def DeductDoesWrongFalsely : Prop := deductDoesRow.holds Tryz.pinned (OpenSpec.ofChange deductDoesWrong)

/-- 'organonlaw23.DeductTheorem': WHATEVER THE INPUT: true; the input reads as it did. -/
def deductTheoremSpec : ChangeSpec := { name := "deductTheorem", fn := fun _ => fun
  | [d1, d2] => { results := [.lit (.bool true)], args := [d1, d2] }
  | _ => none }
def deductTheoremRow : OpenClaim := { program := "ytibfdebhbibfpaagreat", sum := "76fd09cc1d3048fb032317d9e8ad69ccbdda09d87166ed4d92f52de68343fac0", func := "organon/organonlaw23.DeductTheorem", spec := "deductTheorem", unfollowed := true, recurses := true, loops := true, apart := false }
def DeductTheoremSaid : Prop := deductTheoremRow.holds Tryz.pinned (OpenSpec.ofChange deductTheoremSpec)

/-- ITS FALSE NEIGHBOUR: 'it returns false'. Refute it at one input. -/
def deductTheoremWrong : ChangeSpec := { name := "deductTheorem", fn := fun _ => fun
  | [d1, d2] => { results := [.lit (.bool false)], args := [d1, d2] }
  | _ => none }
def DeductTheoremWrongFalsely : Prop := deductTheoremRow.holds Tryz.pinned (OpenSpec.ofChange deductTheoremWrong)

/-- 'organonlaw23.DeductTwice': WHATEVER THE INPUT: true; the input reads as it did. -/
def deductTwiceSpec : ChangeSpec := { name := "deductTwice", fn := fun _ => fun
  | [d1, d2, d3] => { results := [.lit (.bool true)], args := [d1, d2, d3] }
  | _ => none }
def deductTwiceRow : OpenClaim := { program := "ytibfdebhbibfpaagreat", sum := "76fd09cc1d3048fb032317d9e8ad69ccbdda09d87166ed4d92f52de68343fac0", func := "organon/organonlaw23.DeductTwice", spec := "deductTwice", unfollowed := true, recurses := true, loops := true, apart := false }
def DeductTwiceSaid : Prop := deductTwiceRow.holds Tryz.pinned (OpenSpec.ofChange deductTwiceSpec)

/-- ITS FALSE NEIGHBOUR: 'it returns false'. Refute it at one input. -/
def deductTwiceWrong : ChangeSpec := { name := "deductTwice", fn := fun _ => fun
  | [d1, d2, d3] => { results := [.lit (.bool false)], args := [d1, d2, d3] }
  | _ => none }
def DeductTwiceWrongFalsely : Prop := deductTwiceRow.holds Tryz.pinned (OpenSpec.ofChange deductTwiceWrong)

/-- 'organonlaw23.DeductOwn': WHATEVER THE INPUT: true; the input reads as it did. -/
def deductOwnSpec : ChangeSpec := { name := "deductOwn", fn := fun _ => fun
  | [d1, d2] => { results := [.lit (.bool true)], args := [d1, d2] }
  | _ => none }
def deductOwnRow : OpenClaim := { program := "ytibfdebhbibfpaagreat", sum := "76fd09cc1d3048fb032317d9e8ad69ccbdda09d87166ed4d92f52de68343fac0", func := "organon/organonlaw23.DeductOwn", spec := "deductOwn", unfollowed := true, recurses := true, loops := true, apart := false }
def DeductOwnSaid : Prop := deductOwnRow.holds Tryz.pinned (OpenSpec.ofChange deductOwnSpec)

/-- ITS FALSE NEIGHBOUR: 'it returns false'. Refute it at one input. -/
def deductOwnWrong : ChangeSpec := { name := "deductOwn", fn := fun _ => fun
  | [d1, d2] => { results := [.lit (.bool false)], args := [d1, d2] }
  | _ => none }
def DeductOwnWrongFalsely : Prop := deductOwnRow.holds Tryz.pinned (OpenSpec.ofChange deductOwnWrong)

/- THE SECOND FORM. 'bulk': how many values and letters a reading holds, each counted each time it is reached (what is shared counts as often as it is met; a slice's spare places count too). A statement '..UptoSaid' is the law's where the arguments, and the package variables that the reading takes, are together of bulk at most 1048576: NARROWER than '..Said'. Prove '..Said' where nothing that the law and all that it calls make is longer than what came in: it says more and counts as full. Else prove '..UptoSaid'. A law counts once. -/
mutual
def uptoBulk {H : Type} : DataW H → Nat
  | .lit (.string bytes) => bytes.length + 1
  | .lit _ => 1
  | .nil => 1
  | .ptr d => uptoBulk d + 1
  | .slice elems spare => uptoBulkAll elems + uptoBulkAll spare + 1
  | .agg parts => uptoBulkAll parts + 1
  | .iface _ d => uptoBulk d + 1
  | .map entries => uptoBulkEntries entries + 1
  | .held _ => 1
def uptoBulkAll {H : Type} : List (DataW H) → Nat
  | [] => 0
  | d :: r => uptoBulk d + uptoBulkAll r
def uptoBulkEntries {H : Type} : List (Lit × DataW H) → Nat
  | [] => 0
  | x :: r => uptoBulkEntry x + uptoBulkEntries r
def uptoBulkEntry {H : Type} : Lit × DataW H → Nat
  | (.string bytes, d) => bytes.length + uptoBulk d + 1
  | (_, d) => uptoBulk d + 1
 end
def uptoSmall : (H : Type) → List (DataW H) → Bool := fun _ ds => decide (uptoBulkAll ds ≤ 1048576)
def OpenSpec.upto (s : _root_.Go.ChangeSpec) : _root_.Go.OpenSpec := { _root_.Go.OpenSpec.ofChange s with cond := some uptoSmall }

/-- 'organonlaw07.SchemaMakes', WHERE WHAT IT READS IS OF BULK AT MOST 1048576: true; the input reads as it did. -/
def schemaMakesUptoRow : OpenClaim := { program := "ytibfdebhbibfpaagreat", sum := "76fd09cc1d3048fb032317d9e8ad69ccbdda09d87166ed4d92f52de68343fac0", func := "organon/organonlaw07.SchemaMakes", spec := "schemaMakes", unfollowed := true, recurses := true, loops := true, apart := false, narrowed := true }
def SchemaMakesUptoSaid : Prop := schemaMakesUptoRow.holds Tryz.pinned (OpenSpec.upto schemaMakesSpec)

/-- 'organonlaw07.SchemaWhich', WHERE WHAT IT READS IS OF BULK AT MOST 1048576: true; the input reads as it did. -/
def schemaWhichUptoRow : OpenClaim := { program := "ytibfdebhbibfpaagreat", sum := "76fd09cc1d3048fb032317d9e8ad69ccbdda09d87166ed4d92f52de68343fac0", func := "organon/organonlaw07.SchemaWhich", spec := "schemaWhich", unfollowed := true, recurses := true, loops := true, apart := false, narrowed := true }
def SchemaWhichUptoSaid : Prop := schemaWhichUptoRow.holds Tryz.pinned (OpenSpec.upto schemaWhichSpec)

/-- 'organonlaw07.SchemaOwn', WHERE WHAT IT READS IS OF BULK AT MOST 1048576: true; the input reads as it did. -/
def schemaOwnUptoRow : OpenClaim := { program := "ytibfdebhbibfpaagreat", sum := "76fd09cc1d3048fb032317d9e8ad69ccbdda09d87166ed4d92f52de68343fac0", func := "organon/organonlaw07.SchemaOwn", spec := "schemaOwn", unfollowed := true, recurses := true, loops := true, apart := false, narrowed := true }
def SchemaOwnUptoSaid : Prop := schemaOwnUptoRow.holds Tryz.pinned (OpenSpec.upto schemaOwnSpec)

/-- 'organonlaw07.SchemaParts', WHERE WHAT IT READS IS OF BULK AT MOST 1048576: true; the input reads as it did. -/
def schemaPartsUptoRow : OpenClaim := { program := "ytibfdebhbibfpaagreat", sum := "76fd09cc1d3048fb032317d9e8ad69ccbdda09d87166ed4d92f52de68343fac0", func := "organon/organonlaw07.SchemaParts", spec := "schemaParts", unfollowed := true, recurses := true, loops := true, apart := false, narrowed := true }
def SchemaPartsUptoSaid : Prop := schemaPartsUptoRow.holds Tryz.pinned (OpenSpec.upto schemaPartsSpec)

/-- 'organonlaw07.SchemaBack', WHERE WHAT IT READS IS OF BULK AT MOST 1048576: true; the input reads as it did. -/
def schemaBackUptoRow : OpenClaim := { program := "ytibfdebhbibfpaagreat", sum := "76fd09cc1d3048fb032317d9e8ad69ccbdda09d87166ed4d92f52de68343fac0", func := "organon/organonlaw07.SchemaBack", spec := "schemaBack", unfollowed := true, recurses := true, loops := true, apart := false, narrowed := true }
def SchemaBackUptoSaid : Prop := schemaBackUptoRow.holds Tryz.pinned (OpenSpec.upto schemaBackSpec)

/-- 'organonlaw24.ModelAxioms', WHERE WHAT IT READS IS OF BULK AT MOST 1048576: true; the input reads as it did. -/
def modelAxiomsUptoRow : OpenClaim := { program := "ytibfdebhbibfpaagreat", sum := "76fd09cc1d3048fb032317d9e8ad69ccbdda09d87166ed4d92f52de68343fac0", func := "organon/organonlaw24.ModelAxioms", spec := "modelAxioms", unfollowed := true, recurses := true, loops := true, apart := false, narrowed := true }
def ModelAxiomsUptoSaid : Prop := modelAxiomsUptoRow.holds Tryz.pinned (OpenSpec.upto modelAxiomsSpec)

/-- 'organonlaw23.DeductChains', WHERE WHAT IT READS IS OF BULK AT MOST 1048576: true; the input reads as it did. -/
def deductChainsUptoRow : OpenClaim := { program := "ytibfdebhbibfpaagreat", sum := "76fd09cc1d3048fb032317d9e8ad69ccbdda09d87166ed4d92f52de68343fac0", func := "organon/organonlaw23.DeductChains", spec := "deductChains", unfollowed := true, recurses := true, loops := true, apart := false, narrowed := true }
def DeductChainsUptoSaid : Prop := deductChainsUptoRow.holds Tryz.pinned (OpenSpec.upto deductChainsSpec)

/-- 'organonlaw23.DeductLinks', WHERE WHAT IT READS IS OF BULK AT MOST 1048576: true; the input reads as it did. -/
def deductLinksUptoRow : OpenClaim := { program := "ytibfdebhbibfpaagreat", sum := "76fd09cc1d3048fb032317d9e8ad69ccbdda09d87166ed4d92f52de68343fac0", func := "organon/organonlaw23.DeductLinks", spec := "deductLinks", unfollowed := true, recurses := true, loops := true, apart := false, narrowed := true }
def DeductLinksUptoSaid : Prop := deductLinksUptoRow.holds Tryz.pinned (OpenSpec.upto deductLinksSpec)

/-- 'organonlaw24.ModelDerived', WHERE WHAT IT READS IS OF BULK AT MOST 1048576: true; the input reads as it did. -/
def modelDerivedUptoRow : OpenClaim := { program := "ytibfdebhbibfpaagreat", sum := "76fd09cc1d3048fb032317d9e8ad69ccbdda09d87166ed4d92f52de68343fac0", func := "organon/organonlaw24.ModelDerived", spec := "modelDerived", unfollowed := true, recurses := true, loops := true, apart := false, narrowed := true }
def ModelDerivedUptoSaid : Prop := modelDerivedUptoRow.holds Tryz.pinned (OpenSpec.upto modelDerivedSpec)

/-- 'organonlaw23.DeductDoes', WHERE WHAT IT READS IS OF BULK AT MOST 1048576: true; the input reads as it did. -/
def deductDoesUptoRow : OpenClaim := { program := "ytibfdebhbibfpaagreat", sum := "76fd09cc1d3048fb032317d9e8ad69ccbdda09d87166ed4d92f52de68343fac0", func := "organon/organonlaw23.DeductDoes", spec := "deductDoes", unfollowed := true, recurses := true, loops := true, apart := false, narrowed := true }
def DeductDoesUptoSaid : Prop := deductDoesUptoRow.holds Tryz.pinned (OpenSpec.upto deductDoesSpec)

/-- 'organonlaw23.DeductTheorem', WHERE WHAT IT READS IS OF BULK AT MOST 1048576: true; the input reads as it did. -/
def deductTheoremUptoRow : OpenClaim := { program := "ytibfdebhbibfpaagreat", sum := "76fd09cc1d3048fb032317d9e8ad69ccbdda09d87166ed4d92f52de68343fac0", func := "organon/organonlaw23.DeductTheorem", spec := "deductTheorem", unfollowed := true, recurses := true, loops := true, apart := false, narrowed := true }
def DeductTheoremUptoSaid : Prop := deductTheoremUptoRow.holds Tryz.pinned (OpenSpec.upto deductTheoremSpec)

/-- 'organonlaw23.DeductTwice', WHERE WHAT IT READS IS OF BULK AT MOST 1048576: true; the input reads as it did. -/
def deductTwiceUptoRow : OpenClaim := { program := "ytibfdebhbibfpaagreat", sum := "76fd09cc1d3048fb032317d9e8ad69ccbdda09d87166ed4d92f52de68343fac0", func := "organon/organonlaw23.DeductTwice", spec := "deductTwice", unfollowed := true, recurses := true, loops := true, apart := false, narrowed := true }
def DeductTwiceUptoSaid : Prop := deductTwiceUptoRow.holds Tryz.pinned (OpenSpec.upto deductTwiceSpec)

/-- 'organonlaw23.DeductOwn', WHERE WHAT IT READS IS OF BULK AT MOST 1048576: true; the input reads as it did. -/
def deductOwnUptoRow : OpenClaim := { program := "ytibfdebhbibfpaagreat", sum := "76fd09cc1d3048fb032317d9e8ad69ccbdda09d87166ed4d92f52de68343fac0", func := "organon/organonlaw23.DeductOwn", spec := "deductOwn", unfollowed := true, recurses := true, loops := true, apart := false, narrowed := true }
def DeductOwnUptoSaid : Prop := deductOwnUptoRow.holds Tryz.pinned (OpenSpec.upto deductOwnSpec)

end Rows
end Go.Proofs.YtibfdebhbibfpaaGreat
