/-
  DERIVED. GIVEN WITH THE SEED: THE CARDS: each row of YtonknblidjpfeaaDoorRows.lean that lists a variable, with what it lists TIED to the program's text (the seventh form; the later family's looks); each row that meets fmt, with fmt's text TOLD by the authors' own Lean function (tested against real Go, not proved from fmt's source: count such statements apart). THE CARD IS WHAT COUNTS. Prove the row's statement (the work); the ties are given (YtonknblidjpfeaaDoorTie.lean); close each card by the builder's one call (the guide's Derived/Test/ToyasCard.lean, 'card_holds'). Laid BY PROGRAM, IN A SANDBOX (cutbox-door.mjs). By AI agents, Wed Nov 11 2026. No macro, syntax, notation, axiom, sorry.
-/
import Derived.Test.YtonknblidjpfeaaDoorRows
import GoSem.ClaimSeven
namespace Go.Proofs.YtonknblidjpfeaaDoor
namespace Rows

/-- THE TIED CARD OF 'cenotaphlaw10.ReplayParts'. -/
def replayPartsCard : Claim7 := { stood := { row := replayPartsRow, standIns := [], harness := (true, "0f4bc04f60daa770412d218e1d3c18fb83b941651b5d1bde017ecbf1c2b51b73"), looks := true }, kinds := [], alts := [], laidByText := true, laidKinds := [.data, .pinned], laidTests := true, laidLooks := .later }
def ReplayPartsCardSaid : Prop := Claim7.holds Tryd.pinned (.plain (OpenSpec.ofChange replayPartsSpec)) replayPartsCard

/-- THE TIED CARD OF 'cenotaphlaw10.ReplayTicks'. -/
def replayTicksCard : Claim7 := { stood := { row := replayTicksRow, standIns := [], harness := (true, "0f4bc04f60daa770412d218e1d3c18fb83b941651b5d1bde017ecbf1c2b51b73"), looks := true }, kinds := [], alts := [], laidByText := true, laidKinds := [.data, .pinned], laidTests := true, laidLooks := .later }
def ReplayTicksCardSaid : Prop := Claim7.holds Tryd.pinned (.plain (OpenSpec.ofChange replayTicksSpec)) replayTicksCard

/-- THE TIED CARD OF 'cenotaphlaw10.ReplayLens'. -/
def replayLensCard : Claim7 := { stood := { row := replayLensRow, standIns := [], harness := (true, "0f4bc04f60daa770412d218e1d3c18fb83b941651b5d1bde017ecbf1c2b51b73"), looks := true }, kinds := [], alts := [], laidByText := true, laidKinds := [.data, .pinned], laidTests := true, laidLooks := .later }
def ReplayLensCardSaid : Prop := Claim7.holds Tryd.pinned (.plain (OpenSpec.ofChange replayLensSpec)) replayLensCard

/-- THE TIED CARD OF 'cenotaphlaw09.ModelApart'. -/
def modelApartCard : Claim7 := { stood := { row := modelApartRow, standIns := [], harness := (true, "0f4bc04f60daa770412d218e1d3c18fb83b941651b5d1bde017ecbf1c2b51b73"), looks := true }, kinds := [], alts := [], laidByText := true, laidKinds := [.data, .pinned], laidTests := true, laidLooks := .later }
def ModelApartCardSaid : Prop := Claim7.holds Tryd.pinned (.plain (OpenSpec.ofChange modelApartSpec)) modelApartCard

/-- THE TIED CARD OF 'cenotaphlaw09.ModelLists'. -/
def modelListsCard : Claim7 := { stood := { row := modelListsRow, standIns := [], harness := (true, "0f4bc04f60daa770412d218e1d3c18fb83b941651b5d1bde017ecbf1c2b51b73"), looks := true }, kinds := [], alts := [], laidByText := true, laidKinds := [.data, .pinned], laidTests := true, laidLooks := .later }
def ModelListsCardSaid : Prop := Claim7.holds Tryd.pinned (.plain (OpenSpec.ofChange modelListsSpec)) modelListsCard

/-- THE TIED CARD OF 'cenotaphlaw09.ModelNumbers'. -/
def modelNumbersCard : Claim7 := { stood := { row := modelNumbersRow, standIns := [], harness := (true, "0f4bc04f60daa770412d218e1d3c18fb83b941651b5d1bde017ecbf1c2b51b73"), looks := true }, kinds := [], alts := [], laidByText := true, laidKinds := [.data, .pinned], laidTests := true, laidLooks := .later }
def ModelNumbersCardSaid : Prop := Claim7.holds Tryd.pinned (.plain (OpenSpec.ofChange modelNumbersSpec)) modelNumbersCard

/-- THE TIED CARD OF 'cenotaphlaw09.ModelSweeps'. -/
def modelSweepsCard : Claim7 := { stood := { row := modelSweepsRow, standIns := [], harness := (true, "0f4bc04f60daa770412d218e1d3c18fb83b941651b5d1bde017ecbf1c2b51b73"), looks := true }, kinds := [], alts := [], laidByText := true, laidKinds := [.data, .pinned], laidTests := true, laidLooks := .later }
def ModelSweepsCardSaid : Prop := Claim7.holds Tryd.pinned (.plain (OpenSpec.ofChange modelSweepsSpec)) modelSweepsCard

/-- THE TIED CARD OF 'cenotaphlaw09.ModelKeeps'. -/
def modelKeepsCard : Claim7 := { stood := { row := modelKeepsRow, standIns := [], harness := (true, "0f4bc04f60daa770412d218e1d3c18fb83b941651b5d1bde017ecbf1c2b51b73"), looks := true }, kinds := [], alts := [], laidByText := true, laidKinds := [.data, .pinned], laidTests := true, laidLooks := .later }
def ModelKeepsCardSaid : Prop := Claim7.holds Tryd.pinned (.plain (OpenSpec.ofChange modelKeepsSpec)) modelKeepsCard

/-- THE TIED CARD OF 'cenotaphlaw09.ModelStays'. -/
def modelStaysCard : Claim7 := { stood := { row := modelStaysRow, standIns := [], harness := (true, "0f4bc04f60daa770412d218e1d3c18fb83b941651b5d1bde017ecbf1c2b51b73"), looks := true }, kinds := [], alts := [], laidByText := true, laidKinds := [.data, .pinned], laidTests := true, laidLooks := .later }
def ModelStaysCardSaid : Prop := Claim7.holds Tryd.pinned (.plain (OpenSpec.ofChange modelStaysSpec)) modelStaysCard

/-- THE SECOND FORM's CARD OF 'cenotaphlaw10.ReplayParts'. -/
def replayPartsUptoCard : Claim7 := { stood := { row := replayPartsUptoRow, standIns := [], harness := (true, "0f4bc04f60daa770412d218e1d3c18fb83b941651b5d1bde017ecbf1c2b51b73"), looks := true }, kinds := [], alts := [], laidByText := true, laidKinds := [.data, .pinned], laidTests := true, laidLooks := .later }
def ReplayPartsUptoCardSaid : Prop := Claim7.holds Tryd.pinned (.plain (OpenSpec.upto replayPartsSpec)) replayPartsUptoCard

/-- THE SECOND FORM's CARD OF 'cenotaphlaw10.ReplayTicks'. -/
def replayTicksUptoCard : Claim7 := { stood := { row := replayTicksUptoRow, standIns := [], harness := (true, "0f4bc04f60daa770412d218e1d3c18fb83b941651b5d1bde017ecbf1c2b51b73"), looks := true }, kinds := [], alts := [], laidByText := true, laidKinds := [.data, .pinned], laidTests := true, laidLooks := .later }
def ReplayTicksUptoCardSaid : Prop := Claim7.holds Tryd.pinned (.plain (OpenSpec.upto replayTicksSpec)) replayTicksUptoCard

/-- THE SECOND FORM's CARD OF 'cenotaphlaw10.ReplayLens'. -/
def replayLensUptoCard : Claim7 := { stood := { row := replayLensUptoRow, standIns := [], harness := (true, "0f4bc04f60daa770412d218e1d3c18fb83b941651b5d1bde017ecbf1c2b51b73"), looks := true }, kinds := [], alts := [], laidByText := true, laidKinds := [.data, .pinned], laidTests := true, laidLooks := .later }
def ReplayLensUptoCardSaid : Prop := Claim7.holds Tryd.pinned (.plain (OpenSpec.upto replayLensSpec)) replayLensUptoCard

/-- THE SECOND FORM's CARD OF 'cenotaphlaw09.ModelApart'. -/
def modelApartUptoCard : Claim7 := { stood := { row := modelApartUptoRow, standIns := [], harness := (true, "0f4bc04f60daa770412d218e1d3c18fb83b941651b5d1bde017ecbf1c2b51b73"), looks := true }, kinds := [], alts := [], laidByText := true, laidKinds := [.data, .pinned], laidTests := true, laidLooks := .later }
def ModelApartUptoCardSaid : Prop := Claim7.holds Tryd.pinned (.plain (OpenSpec.upto modelApartSpec)) modelApartUptoCard

/-- THE SECOND FORM's CARD OF 'cenotaphlaw09.ModelLists'. -/
def modelListsUptoCard : Claim7 := { stood := { row := modelListsUptoRow, standIns := [], harness := (true, "0f4bc04f60daa770412d218e1d3c18fb83b941651b5d1bde017ecbf1c2b51b73"), looks := true }, kinds := [], alts := [], laidByText := true, laidKinds := [.data, .pinned], laidTests := true, laidLooks := .later }
def ModelListsUptoCardSaid : Prop := Claim7.holds Tryd.pinned (.plain (OpenSpec.upto modelListsSpec)) modelListsUptoCard

/-- THE SECOND FORM's CARD OF 'cenotaphlaw09.ModelNumbers'. -/
def modelNumbersUptoCard : Claim7 := { stood := { row := modelNumbersUptoRow, standIns := [], harness := (true, "0f4bc04f60daa770412d218e1d3c18fb83b941651b5d1bde017ecbf1c2b51b73"), looks := true }, kinds := [], alts := [], laidByText := true, laidKinds := [.data, .pinned], laidTests := true, laidLooks := .later }
def ModelNumbersUptoCardSaid : Prop := Claim7.holds Tryd.pinned (.plain (OpenSpec.upto modelNumbersSpec)) modelNumbersUptoCard

/-- THE SECOND FORM's CARD OF 'cenotaphlaw09.ModelSweeps'. -/
def modelSweepsUptoCard : Claim7 := { stood := { row := modelSweepsUptoRow, standIns := [], harness := (true, "0f4bc04f60daa770412d218e1d3c18fb83b941651b5d1bde017ecbf1c2b51b73"), looks := true }, kinds := [], alts := [], laidByText := true, laidKinds := [.data, .pinned], laidTests := true, laidLooks := .later }
def ModelSweepsUptoCardSaid : Prop := Claim7.holds Tryd.pinned (.plain (OpenSpec.upto modelSweepsSpec)) modelSweepsUptoCard

/-- THE SECOND FORM's CARD OF 'cenotaphlaw09.ModelKeeps'. -/
def modelKeepsUptoCard : Claim7 := { stood := { row := modelKeepsUptoRow, standIns := [], harness := (true, "0f4bc04f60daa770412d218e1d3c18fb83b941651b5d1bde017ecbf1c2b51b73"), looks := true }, kinds := [], alts := [], laidByText := true, laidKinds := [.data, .pinned], laidTests := true, laidLooks := .later }
def ModelKeepsUptoCardSaid : Prop := Claim7.holds Tryd.pinned (.plain (OpenSpec.upto modelKeepsSpec)) modelKeepsUptoCard

/-- THE SECOND FORM's CARD OF 'cenotaphlaw09.ModelStays'. -/
def modelStaysUptoCard : Claim7 := { stood := { row := modelStaysUptoRow, standIns := [], harness := (true, "0f4bc04f60daa770412d218e1d3c18fb83b941651b5d1bde017ecbf1c2b51b73"), looks := true }, kinds := [], alts := [], laidByText := true, laidKinds := [.data, .pinned], laidTests := true, laidLooks := .later }
def ModelStaysUptoCardSaid : Prop := Claim7.holds Tryd.pinned (.plain (OpenSpec.upto modelStaysSpec)) modelStaysUptoCard
end Rows
end Go.Proofs.YtonknblidjpfeaaDoor
