/-
  DERIVED. GIVEN WITH THE SEED: THE CARDS: each row of YtonknblidjpfeaaGreatDoorRows.lean that lists a variable, with what it lists TIED to the program's text (the seventh form; the later family's looks); each row that meets fmt, with fmt's text TOLD by the authors' own Lean function (tested against real Go, not proved from fmt's source: count such statements apart). THE CARD IS WHAT COUNTS. Prove the row's statement (the work); the ties are given (YtonknblidjpfeaaGreatDoorTie.lean); close each card by the builder's one call (the guide's Derived/Test/ToyasCard.lean, 'card_holds'). Laid BY PROGRAM, IN A SANDBOX (cutbox-door.mjs). By AI agents, Wed Nov 11 2026. No macro, syntax, notation, axiom, sorry.
-/
import Derived.Test.YtonknblidjpfeaaGreatDoorRows
import GoSem.ClaimSeven
namespace Go.Proofs.YtonknblidjpfeaaGreatDoor
namespace Rows

/-- THE TIED CARD OF 'cenotaphlaw09.ModelRuns'. -/
def modelRunsCard : Claim7 := { stood := { row := modelRunsRow, standIns := [], harness := (true, "e174efad136a579036c27b27f6198ccff14e0a407631737698c073d9e3815bf8"), looks := true }, kinds := [], alts := [], laidByText := true, laidKinds := [.data, .pinned], laidTests := true, laidLooks := .later }
def ModelRunsCardSaid : Prop := Claim7.holds Tryz.pinned (.plain (OpenSpec.ofChange modelRunsSpec)) modelRunsCard

/-- THE TIED CARD OF 'cenotaphlaw10.ReplayModel'. -/
def replayModelCard : Claim7 := { stood := { row := replayModelRow, standIns := [], harness := (true, "e174efad136a579036c27b27f6198ccff14e0a407631737698c073d9e3815bf8"), looks := true }, kinds := [], alts := [], laidByText := true, laidKinds := [.data, .pinned], laidTests := true, laidLooks := .later }
def ReplayModelCardSaid : Prop := Claim7.holds Tryz.pinned (.plain (OpenSpec.ofChange replayModelSpec)) replayModelCard

/-- THE TIED CARD OF 'cenotaphlaw10.ReplayAll'. -/
def replayAllCard : Claim7 := { stood := { row := replayAllRow, standIns := [], harness := (true, "e174efad136a579036c27b27f6198ccff14e0a407631737698c073d9e3815bf8"), looks := true }, kinds := [], alts := [], laidByText := true, laidKinds := [.data, .pinned], laidTests := true, laidLooks := .later }
def ReplayAllCardSaid : Prop := Claim7.holds Tryz.pinned (.plain (OpenSpec.ofChange replayAllSpec)) replayAllCard

/-- THE SECOND FORM's CARD OF 'cenotaphlaw09.ModelRuns'. -/
def modelRunsUptoCard : Claim7 := { stood := { row := modelRunsUptoRow, standIns := [], harness := (true, "e174efad136a579036c27b27f6198ccff14e0a407631737698c073d9e3815bf8"), looks := true }, kinds := [], alts := [], laidByText := true, laidKinds := [.data, .pinned], laidTests := true, laidLooks := .later }
def ModelRunsUptoCardSaid : Prop := Claim7.holds Tryz.pinned (.plain (OpenSpec.upto modelRunsSpec)) modelRunsUptoCard

/-- THE SECOND FORM's CARD OF 'cenotaphlaw10.ReplayModel'. -/
def replayModelUptoCard : Claim7 := { stood := { row := replayModelUptoRow, standIns := [], harness := (true, "e174efad136a579036c27b27f6198ccff14e0a407631737698c073d9e3815bf8"), looks := true }, kinds := [], alts := [], laidByText := true, laidKinds := [.data, .pinned], laidTests := true, laidLooks := .later }
def ReplayModelUptoCardSaid : Prop := Claim7.holds Tryz.pinned (.plain (OpenSpec.upto replayModelSpec)) replayModelUptoCard

/-- THE SECOND FORM's CARD OF 'cenotaphlaw10.ReplayAll'. -/
def replayAllUptoCard : Claim7 := { stood := { row := replayAllUptoRow, standIns := [], harness := (true, "e174efad136a579036c27b27f6198ccff14e0a407631737698c073d9e3815bf8"), looks := true }, kinds := [], alts := [], laidByText := true, laidKinds := [.data, .pinned], laidTests := true, laidLooks := .later }
def ReplayAllUptoCardSaid : Prop := Claim7.holds Tryz.pinned (.plain (OpenSpec.upto replayAllSpec)) replayAllUptoCard
end Rows
end Go.Proofs.YtonknblidjpfeaaGreatDoor
