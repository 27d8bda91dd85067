/-
  DERIVED. GIVEN WITH THE SEED: THE CARDS: each row of YtaacfmakfkaddaaDoorRows.lean that lists a variable, with what it lists TIED to the program's text (the seventh form; the later family's looks); each row that meets fmt, with fmt's text TOLD by the authors' own Lean function (tested against real Go, not proved from fmt's source: count such statements apart). THE CARD IS WHAT COUNTS. Prove the row's statement (the work); the ties are given (YtaacfmakfkaddaaDoorTie.lean); close each card by the builder's one call (the guide's Derived/Test/ToyasCard.lean, 'card_holds'). Laid BY PROGRAM, IN A SANDBOX (cutbox-door.mjs). By AI agents, Wed Nov 11 2026. No macro, syntax, notation, axiom, sorry.
-/
import Derived.Test.YtaacfmakfkaddaaDoorRows
import GoSem.ClaimSeven
namespace Go.Proofs.YtaacfmakfkaddaaDoor
namespace Rows

/-- THE TIED CARD OF 'organonlaw05.SubstCanons'. -/
def substCanonsCard : Claim7 := { stood := { row := substCanonsRow, standIns := [], harness := (true, "73cf20241998fe34febbda8ac135b678c438129cfa795a2798754ed4c432ca6f"), looks := true }, kinds := [], alts := [], laidByText := true, laidKinds := [.data], laidTests := true, laidLooks := .later }
def SubstCanonsCardSaid : Prop := Claim7.holds Tryd.pinned (.plain (OpenSpec.ofChange substCanonsSpec)) substCanonsCard

/-- THE TIED CARD OF 'organonlaw05.SubstNames'. -/
def substNamesCard : Claim7 := { stood := { row := substNamesRow, standIns := [], harness := (true, "73cf20241998fe34febbda8ac135b678c438129cfa795a2798754ed4c432ca6f"), looks := true }, kinds := [], alts := [], laidByText := true, laidKinds := [.data], laidTests := true, laidLooks := .later }
def SubstNamesCardSaid : Prop := Claim7.holds Tryd.pinned (.plain (OpenSpec.ofChange substNamesSpec)) substNamesCard

/-- THE TIED CARD OF 'organonlaw05.SubstSafes'. -/
def substSafesCard : Claim7 := { stood := { row := substSafesRow, standIns := [], harness := (true, "73cf20241998fe34febbda8ac135b678c438129cfa795a2798754ed4c432ca6f"), looks := true }, kinds := [], alts := [], laidByText := true, laidKinds := [.data], laidTests := true, laidLooks := .later }
def SubstSafesCardSaid : Prop := Claim7.holds Tryd.pinned (.plain (OpenSpec.ofChange substSafesSpec)) substSafesCard

/-- THE TIED CARD OF 'organonlaw05.SubstOwn'. -/
def substOwnCard : Claim7 := { stood := { row := substOwnRow, standIns := [], harness := (true, "73cf20241998fe34febbda8ac135b678c438129cfa795a2798754ed4c432ca6f"), looks := true }, kinds := [], alts := [], laidByText := true, laidKinds := [.data], laidTests := true, laidLooks := .later }
def SubstOwnCardSaid : Prop := Claim7.holds Tryd.pinned (.plain (OpenSpec.ofChange substOwnSpec)) substOwnCard

/-- THE TIED CARD OF 'organonlaw05.SubstSafely'. -/
def substSafelyCard : Claim7 := { stood := { row := substSafelyRow, standIns := [], harness := (true, "73cf20241998fe34febbda8ac135b678c438129cfa795a2798754ed4c432ca6f"), looks := true }, kinds := [], alts := [], laidByText := true, laidKinds := [.data], laidTests := true, laidLooks := .later }
def SubstSafelyCardSaid : Prop := Claim7.holds Tryd.pinned (.plain (OpenSpec.ofChange substSafelySpec)) substSafelyCard

/-- THE TIED CARD OF 'organonlaw24.ModelForms'. -/
def modelFormsCard : Claim7 := { stood := { row := modelFormsRow, standIns := [], harness := (true, "73cf20241998fe34febbda8ac135b678c438129cfa795a2798754ed4c432ca6f"), looks := true }, kinds := [], alts := [], laidByText := true, laidKinds := [.data], laidTests := true, laidLooks := .later }
def ModelFormsCardSaid : Prop := Claim7.holds Tryd.pinned (.plain (OpenSpec.ofChange modelFormsSpec)) modelFormsCard

/-- THE SECOND FORM's CARD OF 'organonlaw05.SubstCanons'. -/
def substCanonsUptoCard : Claim7 := { stood := { row := substCanonsUptoRow, standIns := [], harness := (true, "73cf20241998fe34febbda8ac135b678c438129cfa795a2798754ed4c432ca6f"), looks := true }, kinds := [], alts := [], laidByText := true, laidKinds := [.data], laidTests := true, laidLooks := .later }
def SubstCanonsUptoCardSaid : Prop := Claim7.holds Tryd.pinned (.plain (OpenSpec.upto substCanonsSpec)) substCanonsUptoCard

/-- THE SECOND FORM's CARD OF 'organonlaw05.SubstNames'. -/
def substNamesUptoCard : Claim7 := { stood := { row := substNamesUptoRow, standIns := [], harness := (true, "73cf20241998fe34febbda8ac135b678c438129cfa795a2798754ed4c432ca6f"), looks := true }, kinds := [], alts := [], laidByText := true, laidKinds := [.data], laidTests := true, laidLooks := .later }
def SubstNamesUptoCardSaid : Prop := Claim7.holds Tryd.pinned (.plain (OpenSpec.upto substNamesSpec)) substNamesUptoCard

/-- THE SECOND FORM's CARD OF 'organonlaw05.SubstSafes'. -/
def substSafesUptoCard : Claim7 := { stood := { row := substSafesUptoRow, standIns := [], harness := (true, "73cf20241998fe34febbda8ac135b678c438129cfa795a2798754ed4c432ca6f"), looks := true }, kinds := [], alts := [], laidByText := true, laidKinds := [.data], laidTests := true, laidLooks := .later }
def SubstSafesUptoCardSaid : Prop := Claim7.holds Tryd.pinned (.plain (OpenSpec.upto substSafesSpec)) substSafesUptoCard

/-- THE SECOND FORM's CARD OF 'organonlaw05.SubstOwn'. -/
def substOwnUptoCard : Claim7 := { stood := { row := substOwnUptoRow, standIns := [], harness := (true, "73cf20241998fe34febbda8ac135b678c438129cfa795a2798754ed4c432ca6f"), looks := true }, kinds := [], alts := [], laidByText := true, laidKinds := [.data], laidTests := true, laidLooks := .later }
def SubstOwnUptoCardSaid : Prop := Claim7.holds Tryd.pinned (.plain (OpenSpec.upto substOwnSpec)) substOwnUptoCard

/-- THE SECOND FORM's CARD OF 'organonlaw05.SubstSafely'. -/
def substSafelyUptoCard : Claim7 := { stood := { row := substSafelyUptoRow, standIns := [], harness := (true, "73cf20241998fe34febbda8ac135b678c438129cfa795a2798754ed4c432ca6f"), looks := true }, kinds := [], alts := [], laidByText := true, laidKinds := [.data], laidTests := true, laidLooks := .later }
def SubstSafelyUptoCardSaid : Prop := Claim7.holds Tryd.pinned (.plain (OpenSpec.upto substSafelySpec)) substSafelyUptoCard

/-- THE SECOND FORM's CARD OF 'organonlaw24.ModelForms'. -/
def modelFormsUptoCard : Claim7 := { stood := { row := modelFormsUptoRow, standIns := [], harness := (true, "73cf20241998fe34febbda8ac135b678c438129cfa795a2798754ed4c432ca6f"), looks := true }, kinds := [], alts := [], laidByText := true, laidKinds := [.data], laidTests := true, laidLooks := .later }
def ModelFormsUptoCardSaid : Prop := Claim7.holds Tryd.pinned (.plain (OpenSpec.upto modelFormsSpec)) modelFormsUptoCard
end Rows
end Go.Proofs.YtaacfmakfkaddaaDoor
