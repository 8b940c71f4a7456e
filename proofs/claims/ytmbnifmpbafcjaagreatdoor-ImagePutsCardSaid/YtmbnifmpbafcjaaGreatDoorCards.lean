/-
  DERIVED. GIVEN WITH THE SEED: THE CARDS: each row of YtmbnifmpbafcjaaGreatDoorRows.lean that lists a variable, with what it lists TIED to the program's text (the seventh form; the later family's looks); each row that meets fmt, with fmt's text TOLD by the authors' own Lean function (tested against real Go, not proved from fmt's source: count such statements apart). THE CARD IS WHAT COUNTS. Prove the row's statement (the work); the ties are given (YtmbnifmpbafcjaaGreatDoorTie.lean); close each card by the builder's one call (the guide's Derived/Test/ToyasCard.lean, 'card_holds'). Laid BY PROGRAM, IN A SANDBOX (cutbox-door.mjs). By AI agents, Wed Nov 11 2026. No macro, syntax, notation, axiom, sorry.
-/
import Derived.Test.YtmbnifmpbafcjaaGreatDoorRows
import GoSem.ClaimSeven
namespace Go.Proofs.YtmbnifmpbafcjaaGreatDoor
namespace Rows

/-- THE TIED CARD OF 'cenotaphlaw19.ImagePuts'. -/
def imagePutsCard : Claim7 := { stood := { row := imagePutsRow, standIns := [], harness := (true, "b907d46d109c2a99469bf6c73894df72a6fc25335fddc36e67568e6c8c609936"), looks := true }, kinds := [], alts := [], laidByText := true, laidKinds := [.data, .pinned], laidTests := true, laidLooks := .later }
def ImagePutsCardSaid : Prop := Claim7.holds Tryz.pinned (.plain (OpenSpec.ofChange imagePutsSpec)) imagePutsCard

/-- THE TIED CARD OF 'cenotaphlaw19.ImageBack'. -/
def imageBackCard : Claim7 := { stood := { row := imageBackRow, standIns := [], harness := (true, "b907d46d109c2a99469bf6c73894df72a6fc25335fddc36e67568e6c8c609936"), looks := true }, kinds := [], alts := [], laidByText := true, laidKinds := [.data, .pinned], laidTests := true, laidLooks := .later }
def ImageBackCardSaid : Prop := Claim7.holds Tryz.pinned (.plain (OpenSpec.ofChange imageBackSpec)) imageBackCard

/-- THE TIED CARD OF 'cenotaphlaw19.ImageTurns'. -/
def imageTurnsCard : Claim7 := { stood := { row := imageTurnsRow, standIns := [], harness := (true, "b907d46d109c2a99469bf6c73894df72a6fc25335fddc36e67568e6c8c609936"), looks := true }, kinds := [], alts := [], laidByText := true, laidKinds := [.data, .pinned], laidTests := true, laidLooks := .later }
def ImageTurnsCardSaid : Prop := Claim7.holds Tryz.pinned (.plain (OpenSpec.ofChange imageTurnsSpec)) imageTurnsCard

/-- THE TIED CARD OF 'cenotaphlaw19.ImageChunks'. -/
def imageChunksCard : Claim7 := { stood := { row := imageChunksRow, standIns := [], harness := (true, "b907d46d109c2a99469bf6c73894df72a6fc25335fddc36e67568e6c8c609936"), looks := true }, kinds := [], alts := [], laidByText := true, laidKinds := [.data, .pinned], laidTests := true, laidLooks := .later }
def ImageChunksCardSaid : Prop := Claim7.holds Tryz.pinned (.plain (OpenSpec.ofChange imageChunksSpec)) imageChunksCard

/-- THE TIED CARD OF 'cenotaphlaw19.ImageAppends'. -/
def imageAppendsCard : Claim7 := { stood := { row := imageAppendsRow, standIns := [], harness := (true, "b907d46d109c2a99469bf6c73894df72a6fc25335fddc36e67568e6c8c609936"), looks := true }, kinds := [], alts := [], laidByText := true, laidKinds := [.data, .pinned], laidTests := true, laidLooks := .later }
def ImageAppendsCardSaid : Prop := Claim7.holds Tryz.pinned (.plain (OpenSpec.ofChange imageAppendsSpec)) imageAppendsCard

/-- THE TIED CARD OF 'cenotaphlaw12.CheckTells'. -/
def checkTellsCard : Claim7 := { stood := { row := checkTellsRow, standIns := [], harness := (true, "b907d46d109c2a99469bf6c73894df72a6fc25335fddc36e67568e6c8c609936"), looks := true }, kinds := [], alts := [], laidByText := true, laidKinds := [.data, .handle, .pinned], laidTests := true, laidLooks := .later }
def CheckTellsCardSaid : Prop := Claim7.holds Tryz.pinned (.plain (OpenSpec.ofChange checkTellsSpec)) checkTellsCard

/-- THE TIED CARD OF 'cenotaphlaw12.CheckHonest'. -/
def checkHonestCard : Claim7 := { stood := { row := checkHonestRow, standIns := [], harness := (true, "b907d46d109c2a99469bf6c73894df72a6fc25335fddc36e67568e6c8c609936"), looks := true }, kinds := [], alts := [], laidByText := true, laidKinds := [.data, .handle, .pinned], laidTests := true, laidLooks := .later }
def CheckHonestCardSaid : Prop := Claim7.holds Tryz.pinned (.plain (OpenSpec.ofChange checkHonestSpec)) checkHonestCard

/-- THE TIED CARD OF 'cenotaphlaw12.CheckRuns'. -/
def checkRunsCard : Claim7 := { stood := { row := checkRunsRow, standIns := [], harness := (true, "b907d46d109c2a99469bf6c73894df72a6fc25335fddc36e67568e6c8c609936"), looks := true }, kinds := [], alts := [], laidByText := true, laidKinds := [.data, .handle, .pinned], laidTests := true, laidLooks := .later }
def CheckRunsCardSaid : Prop := Claim7.holds Tryz.pinned (.plain (OpenSpec.ofChange checkRunsSpec)) checkRunsCard

/-- THE TIED CARD OF 'cenotaphlaw12.CheckSame'. -/
def checkSameCard : Claim7 := { stood := { row := checkSameRow, standIns := [], harness := (true, "b907d46d109c2a99469bf6c73894df72a6fc25335fddc36e67568e6c8c609936"), looks := true }, kinds := [], alts := [], laidByText := true, laidKinds := [.data, .handle, .pinned], laidTests := true, laidLooks := .later }
def CheckSameCardSaid : Prop := Claim7.holds Tryz.pinned (.plain (OpenSpec.ofChange checkSameSpec)) checkSameCard

/-- THE TIED CARD OF 'cenotaphlaw12.CheckCut'. -/
def checkCutCard : Claim7 := { stood := { row := checkCutRow, standIns := [], harness := (true, "b907d46d109c2a99469bf6c73894df72a6fc25335fddc36e67568e6c8c609936"), looks := true }, kinds := [], alts := [], laidByText := true, laidKinds := [.data, .handle, .pinned], laidTests := true, laidLooks := .later }
def CheckCutCardSaid : Prop := Claim7.holds Tryz.pinned (.plain (OpenSpec.ofChange checkCutSpec)) checkCutCard

/-- THE TIED CARD OF 'cenotaphlaw12.CheckProofs'. -/
def checkProofsCard : Claim7 := { stood := { row := checkProofsRow, standIns := [], harness := (true, "b907d46d109c2a99469bf6c73894df72a6fc25335fddc36e67568e6c8c609936"), looks := true }, kinds := [], alts := [], laidByText := true, laidKinds := [.data, .handle, .pinned], laidTests := true, laidLooks := .later }
def CheckProofsCardSaid : Prop := Claim7.holds Tryz.pinned (.plain (OpenSpec.ofChange checkProofsSpec)) checkProofsCard

/-- THE TIED CARD OF 'cenotaphlaw12.CheckForged'. -/
def checkForgedCard : Claim7 := { stood := { row := checkForgedRow, standIns := [], harness := (true, "b907d46d109c2a99469bf6c73894df72a6fc25335fddc36e67568e6c8c609936"), looks := true }, kinds := [], alts := [], laidByText := true, laidKinds := [.data, .handle, .pinned], laidTests := true, laidLooks := .later }
def CheckForgedCardSaid : Prop := Claim7.holds Tryz.pinned (.plain (OpenSpec.ofChange checkForgedSpec)) checkForgedCard

/-- THE SECOND FORM's CARD OF 'cenotaphlaw19.ImagePuts'. -/
def imagePutsUptoCard : Claim7 := { stood := { row := imagePutsUptoRow, standIns := [], harness := (true, "b907d46d109c2a99469bf6c73894df72a6fc25335fddc36e67568e6c8c609936"), looks := true }, kinds := [], alts := [], laidByText := true, laidKinds := [.data, .pinned], laidTests := true, laidLooks := .later }
def ImagePutsUptoCardSaid : Prop := Claim7.holds Tryz.pinned (.plain (OpenSpec.upto imagePutsSpec)) imagePutsUptoCard

/-- THE SECOND FORM's CARD OF 'cenotaphlaw19.ImageBack'. -/
def imageBackUptoCard : Claim7 := { stood := { row := imageBackUptoRow, standIns := [], harness := (true, "b907d46d109c2a99469bf6c73894df72a6fc25335fddc36e67568e6c8c609936"), looks := true }, kinds := [], alts := [], laidByText := true, laidKinds := [.data, .pinned], laidTests := true, laidLooks := .later }
def ImageBackUptoCardSaid : Prop := Claim7.holds Tryz.pinned (.plain (OpenSpec.upto imageBackSpec)) imageBackUptoCard

/-- THE SECOND FORM's CARD OF 'cenotaphlaw19.ImageTurns'. -/
def imageTurnsUptoCard : Claim7 := { stood := { row := imageTurnsUptoRow, standIns := [], harness := (true, "b907d46d109c2a99469bf6c73894df72a6fc25335fddc36e67568e6c8c609936"), looks := true }, kinds := [], alts := [], laidByText := true, laidKinds := [.data, .pinned], laidTests := true, laidLooks := .later }
def ImageTurnsUptoCardSaid : Prop := Claim7.holds Tryz.pinned (.plain (OpenSpec.upto imageTurnsSpec)) imageTurnsUptoCard

/-- THE SECOND FORM's CARD OF 'cenotaphlaw19.ImageChunks'. -/
def imageChunksUptoCard : Claim7 := { stood := { row := imageChunksUptoRow, standIns := [], harness := (true, "b907d46d109c2a99469bf6c73894df72a6fc25335fddc36e67568e6c8c609936"), looks := true }, kinds := [], alts := [], laidByText := true, laidKinds := [.data, .pinned], laidTests := true, laidLooks := .later }
def ImageChunksUptoCardSaid : Prop := Claim7.holds Tryz.pinned (.plain (OpenSpec.upto imageChunksSpec)) imageChunksUptoCard

/-- THE SECOND FORM's CARD OF 'cenotaphlaw19.ImageAppends'. -/
def imageAppendsUptoCard : Claim7 := { stood := { row := imageAppendsUptoRow, standIns := [], harness := (true, "b907d46d109c2a99469bf6c73894df72a6fc25335fddc36e67568e6c8c609936"), looks := true }, kinds := [], alts := [], laidByText := true, laidKinds := [.data, .pinned], laidTests := true, laidLooks := .later }
def ImageAppendsUptoCardSaid : Prop := Claim7.holds Tryz.pinned (.plain (OpenSpec.upto imageAppendsSpec)) imageAppendsUptoCard

/-- THE SECOND FORM's CARD OF 'cenotaphlaw12.CheckTells'. -/
def checkTellsUptoCard : Claim7 := { stood := { row := checkTellsUptoRow, standIns := [], harness := (true, "b907d46d109c2a99469bf6c73894df72a6fc25335fddc36e67568e6c8c609936"), looks := true }, kinds := [], alts := [], laidByText := true, laidKinds := [.data, .handle, .pinned], laidTests := true, laidLooks := .later }
def CheckTellsUptoCardSaid : Prop := Claim7.holds Tryz.pinned (.plain (OpenSpec.upto checkTellsSpec)) checkTellsUptoCard

/-- THE SECOND FORM's CARD OF 'cenotaphlaw12.CheckHonest'. -/
def checkHonestUptoCard : Claim7 := { stood := { row := checkHonestUptoRow, standIns := [], harness := (true, "b907d46d109c2a99469bf6c73894df72a6fc25335fddc36e67568e6c8c609936"), looks := true }, kinds := [], alts := [], laidByText := true, laidKinds := [.data, .handle, .pinned], laidTests := true, laidLooks := .later }
def CheckHonestUptoCardSaid : Prop := Claim7.holds Tryz.pinned (.plain (OpenSpec.upto checkHonestSpec)) checkHonestUptoCard

/-- THE SECOND FORM's CARD OF 'cenotaphlaw12.CheckRuns'. -/
def checkRunsUptoCard : Claim7 := { stood := { row := checkRunsUptoRow, standIns := [], harness := (true, "b907d46d109c2a99469bf6c73894df72a6fc25335fddc36e67568e6c8c609936"), looks := true }, kinds := [], alts := [], laidByText := true, laidKinds := [.data, .handle, .pinned], laidTests := true, laidLooks := .later }
def CheckRunsUptoCardSaid : Prop := Claim7.holds Tryz.pinned (.plain (OpenSpec.upto checkRunsSpec)) checkRunsUptoCard

/-- THE SECOND FORM's CARD OF 'cenotaphlaw12.CheckSame'. -/
def checkSameUptoCard : Claim7 := { stood := { row := checkSameUptoRow, standIns := [], harness := (true, "b907d46d109c2a99469bf6c73894df72a6fc25335fddc36e67568e6c8c609936"), looks := true }, kinds := [], alts := [], laidByText := true, laidKinds := [.data, .handle, .pinned], laidTests := true, laidLooks := .later }
def CheckSameUptoCardSaid : Prop := Claim7.holds Tryz.pinned (.plain (OpenSpec.upto checkSameSpec)) checkSameUptoCard

/-- THE SECOND FORM's CARD OF 'cenotaphlaw12.CheckCut'. -/
def checkCutUptoCard : Claim7 := { stood := { row := checkCutUptoRow, standIns := [], harness := (true, "b907d46d109c2a99469bf6c73894df72a6fc25335fddc36e67568e6c8c609936"), looks := true }, kinds := [], alts := [], laidByText := true, laidKinds := [.data, .handle, .pinned], laidTests := true, laidLooks := .later }
def CheckCutUptoCardSaid : Prop := Claim7.holds Tryz.pinned (.plain (OpenSpec.upto checkCutSpec)) checkCutUptoCard

/-- THE SECOND FORM's CARD OF 'cenotaphlaw12.CheckProofs'. -/
def checkProofsUptoCard : Claim7 := { stood := { row := checkProofsUptoRow, standIns := [], harness := (true, "b907d46d109c2a99469bf6c73894df72a6fc25335fddc36e67568e6c8c609936"), looks := true }, kinds := [], alts := [], laidByText := true, laidKinds := [.data, .handle, .pinned], laidTests := true, laidLooks := .later }
def CheckProofsUptoCardSaid : Prop := Claim7.holds Tryz.pinned (.plain (OpenSpec.upto checkProofsSpec)) checkProofsUptoCard

/-- THE SECOND FORM's CARD OF 'cenotaphlaw12.CheckForged'. -/
def checkForgedUptoCard : Claim7 := { stood := { row := checkForgedUptoRow, standIns := [], harness := (true, "b907d46d109c2a99469bf6c73894df72a6fc25335fddc36e67568e6c8c609936"), looks := true }, kinds := [], alts := [], laidByText := true, laidKinds := [.data, .handle, .pinned], laidTests := true, laidLooks := .later }
def CheckForgedUptoCardSaid : Prop := Claim7.holds Tryz.pinned (.plain (OpenSpec.upto checkForgedSpec)) checkForgedUptoCard
end Rows
end Go.Proofs.YtmbnifmpbafcjaaGreatDoor
