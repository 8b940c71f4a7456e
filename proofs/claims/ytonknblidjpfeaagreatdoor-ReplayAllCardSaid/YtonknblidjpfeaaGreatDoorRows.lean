/-
  NARROWER THAN 'FOR EVERY INPUT', by the rows' own cells (each row's printed sentence says how): ModelRuns: laid · ReplayModel: laid · ReplayAll: laid.
  DERIVED. THE GIVEN ROWS OF THIS SEAT. 3 by the template 'for every input the law returns true; each argument reads behind the call as it read before'; 0 by the template 'total and deterministic' (their statements: YtonknblidjpfeaaGreatDoorTotals.lean).
  GIVEN WITH THE SEED: the statements are not yours to turn. If you find one false, say at which input.
  Laid BY PROGRAM, IN A SANDBOX (cutbox-rows.mjs): the forced cells as the released guide's own fill.sh prints them over the translation 5317638dbe9a73f0… (all of the seat's roots in one cut). By AI agents, Wed Nov 11 2026. No macro, syntax, notation, axiom, sorry.
-/
import Derived.Test.YtonknblidjpfeaaGreatDoorChecked
import GoSem.PinnedTables
import GoSem.Claim
import GoSem.ClaimJoined
import GoSem.ClaimMapViews
import Derived.JoinedTies
import Derived.KernelRfl
namespace Go.Proofs.YtonknblidjpfeaaGreatDoor
/- THE CELL 'sum', in the pinned program and in every row, IS THE sha256 OF THE DUMP (.gsa) THAT YtonknblidjpfeaaGreatDoorProg.lean LOADS. Nothing in Lean hashes anything: it is a label: what it is worth is what the hold of that sum in a sandbox is worth. -/
noncomputable def Tryz.pinned : Pinned := { name := "ytonknblidjpfeaagreatdoor", sum := "5317638dbe9a73f091664281dcd1d9bd52a48d17dbf8d826385163de5c9fb9c8", checked := Tryz.checked }
namespace Rows
def none {H : Type} : Left H := { results := [], args := [] }

/- WHAT THE LISTED PACKAGE-LEVEL VARIABLES READ AS WHEN THE CALL BEGINS. Each datum BY PROGRAM (the guide's laid-datum.mjs) off the statement by which the dump's own 'gosem.cut.vars' lays the variable. In a bare row this is a premise. The card (YtonknblidjpfeaaGreatDoorCards.lean) ties it to the program's text. -/
def laid_unicode_utf8_acceptRanges {H : Type} : DataW H := .agg [.agg [.lit (.int .u8 128), .lit (.int .u8 191)], .agg [.lit (.int .u8 160), .lit (.int .u8 191)], .agg [.lit (.int .u8 128), .lit (.int .u8 159)], .agg [.lit (.int .u8 144), .lit (.int .u8 191)], .agg [.lit (.int .u8 128), .lit (.int .u8 143)], .agg [.lit (.int .u8 0), .lit (.int .u8 0)], .agg [.lit (.int .u8 0), .lit (.int .u8 0)], .agg [.lit (.int .u8 0), .lit (.int .u8 0)], .agg [.lit (.int .u8 0), .lit (.int .u8 0)], .agg [.lit (.int .u8 0), .lit (.int .u8 0)], .agg [.lit (.int .u8 0), .lit (.int .u8 0)], .agg [.lit (.int .u8 0), .lit (.int .u8 0)], .agg [.lit (.int .u8 0), .lit (.int .u8 0)], .agg [.lit (.int .u8 0), .lit (.int .u8 0)], .agg [.lit (.int .u8 0), .lit (.int .u8 0)], .agg [.lit (.int .u8 0), .lit (.int .u8 0)]]
/-- One of Go's own tables, pinned by name: the form's constant. -/
def laid_unicode_utf8_first : DataW Unit := Go.Pinned.utf8First

/-- 'cenotaphlaw09.ModelRuns': WHATEVER THE INPUT: true; the input reads as it did. -/
def modelRunsSpec : ChangeSpec := { name := "modelRuns", fn := fun _ => fun
  | [d] => { results := [.lit (.bool true)], args := [d] }
  | _ => none }
def modelRunsRow : OpenClaim := { program := "ytonknblidjpfeaagreatdoor", sum := "5317638dbe9a73f091664281dcd1d9bd52a48d17dbf8d826385163de5c9fb9c8", func := "cenotaph/cenotaphlaw09.ModelRuns", spec := "modelRuns", inPlace := ["slices.overlaps[string]", "math/bits.Add64"], unfollowed := true, recurses := true, named := ["unicode/utf8.first", "unicode/utf8.acceptRanges"], apart := false, laid := [("unicode/utf8.acceptRanges", laid_unicode_utf8_acceptRanges), ("unicode/utf8.first", laid_unicode_utf8_first)] }
def ModelRunsSaid : Prop := modelRunsRow.holds Tryz.pinned (OpenSpec.ofChange modelRunsSpec)

/-- ITS FALSE NEIGHBOUR: 'it returns false'. Refute it at one input. -/
def modelRunsWrong : ChangeSpec := { name := "modelRuns", fn := fun _ => fun
  | [d] => { results := [.lit (.bool false)], args := [d] }
  | _ => none }
def ModelRunsWrongFalsely : Prop := modelRunsRow.holds Tryz.pinned (OpenSpec.ofChange modelRunsWrong)

/-- 'cenotaphlaw10.ReplayModel': WHATEVER THE INPUT: true; the input reads as it did. -/
def replayModelSpec : ChangeSpec := { name := "replayModel", fn := fun _ => fun
  | [d] => { results := [.lit (.bool true)], args := [d] }
  | _ => none }
def replayModelRow : OpenClaim := { program := "ytonknblidjpfeaagreatdoor", sum := "5317638dbe9a73f091664281dcd1d9bd52a48d17dbf8d826385163de5c9fb9c8", func := "cenotaph/cenotaphlaw10.ReplayModel", spec := "replayModel", inPlace := ["slices.overlaps[string]", "math/bits.Add64"], unfollowed := true, recurses := true, named := ["unicode/utf8.first", "unicode/utf8.acceptRanges"], apart := false, laid := [("unicode/utf8.acceptRanges", laid_unicode_utf8_acceptRanges), ("unicode/utf8.first", laid_unicode_utf8_first)] }
def ReplayModelSaid : Prop := replayModelRow.holds Tryz.pinned (OpenSpec.ofChange replayModelSpec)

/-- ITS FALSE NEIGHBOUR: 'it returns false'. Refute it at one input. -/
def replayModelWrong : ChangeSpec := { name := "replayModel", fn := fun _ => fun
  | [d] => { results := [.lit (.bool false)], args := [d] }
  | _ => none }
def ReplayModelWrongFalsely : Prop := replayModelRow.holds Tryz.pinned (OpenSpec.ofChange replayModelWrong)

/-- 'cenotaphlaw10.ReplayAll': WHATEVER THE INPUT: true; the input reads as it did. -/
def replayAllSpec : ChangeSpec := { name := "replayAll", fn := fun _ => fun
  | [d1, d2] => { results := [.lit (.bool true)], args := [d1, d2] }
  | _ => none }
def replayAllRow : OpenClaim := { program := "ytonknblidjpfeaagreatdoor", sum := "5317638dbe9a73f091664281dcd1d9bd52a48d17dbf8d826385163de5c9fb9c8", func := "cenotaph/cenotaphlaw10.ReplayAll", spec := "replayAll", inPlace := ["slices.overlaps[string]", "math/bits.Add64"], unfollowed := true, recurses := true, named := ["unicode/utf8.first", "unicode/utf8.acceptRanges"], apart := false, laid := [("unicode/utf8.acceptRanges", laid_unicode_utf8_acceptRanges), ("unicode/utf8.first", laid_unicode_utf8_first)] }
def ReplayAllSaid : Prop := replayAllRow.holds Tryz.pinned (OpenSpec.ofChange replayAllSpec)

/-- ITS FALSE NEIGHBOUR: 'it returns false'. Refute it at one input. -/
def replayAllWrong : ChangeSpec := { name := "replayAll", fn := fun _ => fun
  | [d1, d2] => { results := [.lit (.bool false)], args := [d1, d2] }
  | _ => none }
def ReplayAllWrongFalsely : Prop := replayAllRow.holds Tryz.pinned (OpenSpec.ofChange replayAllWrong)

/- THE SECOND FORM. 'bulk': how many values and letters a reading holds, each counted each time it is reached (what is shared counts as often as it is met; a slice's spare places count too). A statement '..UptoSaid' is the law's where the arguments, and the package variables that the reading takes, are together of bulk at most 1048576: NARROWER than '..Said'. Prove '..Said' where nothing that the law and all that it calls make is longer than what came in: it says more and counts as full. Else prove '..UptoSaid'. A law counts once. -/
mutual
def uptoBulk {H : Type} : DataW H → Nat
  | .lit (.string bytes) => bytes.length + 1
  | .lit _ => 1
  | .nil => 1
  | .ptr d => uptoBulk d + 1
  | .slice elems spare => uptoBulkAll elems + uptoBulkAll spare + 1
  | .agg parts => uptoBulkAll parts + 1
  | .iface _ d => uptoBulk d + 1
  | .map entries => uptoBulkEntries entries + 1
  | .held _ => 1
def uptoBulkAll {H : Type} : List (DataW H) → Nat
  | [] => 0
  | d :: r => uptoBulk d + uptoBulkAll r
def uptoBulkEntries {H : Type} : List (Lit × DataW H) → Nat
  | [] => 0
  | x :: r => uptoBulkEntry x + uptoBulkEntries r
def uptoBulkEntry {H : Type} : Lit × DataW H → Nat
  | (.string bytes, d) => bytes.length + uptoBulk d + 1
  | (_, d) => uptoBulk d + 1
 end
def uptoSmall : (H : Type) → List (DataW H) → Bool := fun _ ds => decide (uptoBulkAll ds ≤ 1048576)
def OpenSpec.upto (s : _root_.Go.ChangeSpec) : _root_.Go.OpenSpec := { _root_.Go.OpenSpec.ofChange s with cond := some uptoSmall }

/-- 'cenotaphlaw09.ModelRuns', WHERE WHAT IT READS IS OF BULK AT MOST 1048576: true; the input reads as it did. -/
def modelRunsUptoRow : OpenClaim := { program := "ytonknblidjpfeaagreatdoor", sum := "5317638dbe9a73f091664281dcd1d9bd52a48d17dbf8d826385163de5c9fb9c8", func := "cenotaph/cenotaphlaw09.ModelRuns", spec := "modelRuns", inPlace := ["slices.overlaps[string]", "math/bits.Add64"], unfollowed := true, recurses := true, named := ["unicode/utf8.first", "unicode/utf8.acceptRanges"], apart := false, laid := [("unicode/utf8.acceptRanges", laid_unicode_utf8_acceptRanges), ("unicode/utf8.first", laid_unicode_utf8_first)], narrowed := true }
def ModelRunsUptoSaid : Prop := modelRunsUptoRow.holds Tryz.pinned (OpenSpec.upto modelRunsSpec)

/-- 'cenotaphlaw10.ReplayModel', WHERE WHAT IT READS IS OF BULK AT MOST 1048576: true; the input reads as it did. -/
def replayModelUptoRow : OpenClaim := { program := "ytonknblidjpfeaagreatdoor", sum := "5317638dbe9a73f091664281dcd1d9bd52a48d17dbf8d826385163de5c9fb9c8", func := "cenotaph/cenotaphlaw10.ReplayModel", spec := "replayModel", inPlace := ["slices.overlaps[string]", "math/bits.Add64"], unfollowed := true, recurses := true, named := ["unicode/utf8.first", "unicode/utf8.acceptRanges"], apart := false, laid := [("unicode/utf8.acceptRanges", laid_unicode_utf8_acceptRanges), ("unicode/utf8.first", laid_unicode_utf8_first)], narrowed := true }
def ReplayModelUptoSaid : Prop := replayModelUptoRow.holds Tryz.pinned (OpenSpec.upto replayModelSpec)

/-- 'cenotaphlaw10.ReplayAll', WHERE WHAT IT READS IS OF BULK AT MOST 1048576: true; the input reads as it did. -/
def replayAllUptoRow : OpenClaim := { program := "ytonknblidjpfeaagreatdoor", sum := "5317638dbe9a73f091664281dcd1d9bd52a48d17dbf8d826385163de5c9fb9c8", func := "cenotaph/cenotaphlaw10.ReplayAll", spec := "replayAll", inPlace := ["slices.overlaps[string]", "math/bits.Add64"], unfollowed := true, recurses := true, named := ["unicode/utf8.first", "unicode/utf8.acceptRanges"], apart := false, laid := [("unicode/utf8.acceptRanges", laid_unicode_utf8_acceptRanges), ("unicode/utf8.first", laid_unicode_utf8_first)], narrowed := true }
def ReplayAllUptoSaid : Prop := replayAllUptoRow.holds Tryz.pinned (OpenSpec.upto replayAllSpec)

end Rows
end Go.Proofs.YtonknblidjpfeaaGreatDoor
