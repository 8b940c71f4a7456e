/-
  NARROWER THAN 'FOR EVERY INPUT', by the rows' own cells (each row's printed sentence says how): ImagePuts: laid · ImageBack: laid · ImageTurns: laid · ImageChunks: laid · ImageAppends: laid · CheckTells: laid · CheckHonest: laid · CheckRuns: laid · CheckSame: laid · CheckCut: laid · CheckProofs: laid · CheckForged: laid.
  DERIVED. THE GIVEN ROWS OF THIS SEAT. 12 by the template 'for every input the law returns true; each argument reads behind the call as it read before'; 0 by the template 'total and deterministic' (their statements: YtmbnifmpbafcjaaGreatDoorTotals.lean).
  GIVEN WITH THE SEED: the statements are not yours to turn. If you find one false, say at which input.
  Laid BY PROGRAM, IN A SANDBOX (cutbox-rows.mjs): the forced cells as the released guide's own fill.sh prints them over the translation 4b10933c1dbb3b5c… (all of the seat's roots in one cut). By AI agents, Wed Nov 11 2026. No macro, syntax, notation, axiom, sorry.
-/
import Derived.Test.YtmbnifmpbafcjaaGreatDoorChecked
import GoSem.PinnedTables
import GoSem.Claim
import GoSem.ClaimJoined
import GoSem.ClaimMapViews
import Derived.JoinedTies
import Derived.KernelRfl
namespace Go.Proofs.YtmbnifmpbafcjaaGreatDoor
/- THE CELL 'sum', in the pinned program and in every row, IS THE sha256 OF THE DUMP (.gsa) THAT YtmbnifmpbafcjaaGreatDoorProg.lean LOADS. Nothing in Lean hashes anything: it is a label: what it is worth is what the hold of that sum in a sandbox is worth. -/
noncomputable def Tryz.pinned : Pinned := { name := "ytmbnifmpbafcjaagreatdoor", sum := "4b10933c1dbb3b5c50e43db56bd5b6835819fb0023cc3f77b9b88beb4204aba1", checked := Tryz.checked }
namespace Rows
def none {H : Type} : Left H := { results := [], args := [] }

/- WHAT THE LISTED PACKAGE-LEVEL VARIABLES READ AS WHEN THE CALL BEGINS. Each datum BY PROGRAM (the guide's laid-datum.mjs) off the statement by which the dump's own 'gosem.cut.vars' lays the variable. In a bare row this is a premise. The card (YtmbnifmpbafcjaaGreatDoorCards.lean) ties it to the program's text. -/
def laid_unicode_utf8_acceptRanges {H : Type} : DataW H := .agg [.agg [.lit (.int .u8 128), .lit (.int .u8 191)], .agg [.lit (.int .u8 160), .lit (.int .u8 191)], .agg [.lit (.int .u8 128), .lit (.int .u8 159)], .agg [.lit (.int .u8 144), .lit (.int .u8 191)], .agg [.lit (.int .u8 128), .lit (.int .u8 143)], .agg [.lit (.int .u8 0), .lit (.int .u8 0)], .agg [.lit (.int .u8 0), .lit (.int .u8 0)], .agg [.lit (.int .u8 0), .lit (.int .u8 0)], .agg [.lit (.int .u8 0), .lit (.int .u8 0)], .agg [.lit (.int .u8 0), .lit (.int .u8 0)], .agg [.lit (.int .u8 0), .lit (.int .u8 0)], .agg [.lit (.int .u8 0), .lit (.int .u8 0)], .agg [.lit (.int .u8 0), .lit (.int .u8 0)], .agg [.lit (.int .u8 0), .lit (.int .u8 0)], .agg [.lit (.int .u8 0), .lit (.int .u8 0)], .agg [.lit (.int .u8 0), .lit (.int .u8 0)]]
/-- One of Go's own tables, pinned by name: the form's constant. -/
def laid_unicode_utf8_first : DataW Unit := Go.Pinned.utf8First
def laid_errors_errorType {H : Type} : DataW H := .iface "internal/reflectlite.rtype" (.agg [.ptr (.lit (.string [101, 114, 114, 111, 114]))])

/-- 'cenotaphlaw19.ImagePuts': WHATEVER THE INPUT: true; the input reads as it did. -/
def imagePutsSpec : ChangeSpec := { name := "imagePuts", fn := fun _ => fun
  | [d1, d2, d3] => { results := [.lit (.bool true)], args := [d1, d2, d3] }
  | _ => none }
def imagePutsRow : OpenClaim := { program := "ytmbnifmpbafcjaagreatdoor", sum := "4b10933c1dbb3b5c50e43db56bd5b6835819fb0023cc3f77b9b88beb4204aba1", func := "cenotaph/cenotaphlaw19.ImagePuts", spec := "imagePuts", inPlace := ["internal/abi.NoEscape", "slices.overlaps[string]", "math/bits.Add64"], unfollowed := true, recurses := true, named := ["unicode/utf8.first", "unicode/utf8.acceptRanges"], apart := false, laid := [("unicode/utf8.acceptRanges", laid_unicode_utf8_acceptRanges), ("unicode/utf8.first", laid_unicode_utf8_first)] }
def ImagePutsSaid : Prop := imagePutsRow.holds Tryz.pinned (OpenSpec.ofChange imagePutsSpec)

/-- ITS FALSE NEIGHBOUR: 'it returns false'. Refute it at one input. -/
def imagePutsWrong : ChangeSpec := { name := "imagePuts", fn := fun _ => fun
  | [d1, d2, d3] => { results := [.lit (.bool false)], args := [d1, d2, d3] }
  | _ => none }
def ImagePutsWrongFalsely : Prop := imagePutsRow.holds Tryz.pinned (OpenSpec.ofChange imagePutsWrong)

/-- 'cenotaphlaw19.ImageBack': WHATEVER THE INPUT: true; the input reads as it did. -/
def imageBackSpec : ChangeSpec := { name := "imageBack", fn := fun _ => fun
  | [d1, d2, d3, d4] => { results := [.lit (.bool true)], args := [d1, d2, d3, d4] }
  | _ => none }
def imageBackRow : OpenClaim := { program := "ytmbnifmpbafcjaagreatdoor", sum := "4b10933c1dbb3b5c50e43db56bd5b6835819fb0023cc3f77b9b88beb4204aba1", func := "cenotaph/cenotaphlaw19.ImageBack", spec := "imageBack", inPlace := ["internal/abi.NoEscape", "slices.overlaps[string]", "math/bits.Add64"], unfollowed := true, recurses := true, named := ["unicode/utf8.first", "unicode/utf8.acceptRanges"], apart := false, laid := [("unicode/utf8.acceptRanges", laid_unicode_utf8_acceptRanges), ("unicode/utf8.first", laid_unicode_utf8_first)] }
def ImageBackSaid : Prop := imageBackRow.holds Tryz.pinned (OpenSpec.ofChange imageBackSpec)

/-- ITS FALSE NEIGHBOUR: 'it returns false'. Refute it at one input. -/
def imageBackWrong : ChangeSpec := { name := "imageBack", fn := fun _ => fun
  | [d1, d2, d3, d4] => { results := [.lit (.bool false)], args := [d1, d2, d3, d4] }
  | _ => none }
def ImageBackWrongFalsely : Prop := imageBackRow.holds Tryz.pinned (OpenSpec.ofChange imageBackWrong)

/-- 'cenotaphlaw19.ImageTurns': WHATEVER THE INPUT: true; the input reads as it did. -/
def imageTurnsSpec : ChangeSpec := { name := "imageTurns", fn := fun _ => fun
  | [d1, d2, d3] => { results := [.lit (.bool true)], args := [d1, d2, d3] }
  | _ => none }
def imageTurnsRow : OpenClaim := { program := "ytmbnifmpbafcjaagreatdoor", sum := "4b10933c1dbb3b5c50e43db56bd5b6835819fb0023cc3f77b9b88beb4204aba1", func := "cenotaph/cenotaphlaw19.ImageTurns", spec := "imageTurns", inPlace := ["internal/abi.NoEscape", "slices.overlaps[string]", "math/bits.Add64"], unfollowed := true, recurses := true, named := ["unicode/utf8.first", "unicode/utf8.acceptRanges"], apart := false, laid := [("unicode/utf8.acceptRanges", laid_unicode_utf8_acceptRanges), ("unicode/utf8.first", laid_unicode_utf8_first)] }
def ImageTurnsSaid : Prop := imageTurnsRow.holds Tryz.pinned (OpenSpec.ofChange imageTurnsSpec)

/-- ITS FALSE NEIGHBOUR: 'it returns false'. Refute it at one input. -/
def imageTurnsWrong : ChangeSpec := { name := "imageTurns", fn := fun _ => fun
  | [d1, d2, d3] => { results := [.lit (.bool false)], args := [d1, d2, d3] }
  | _ => none }
def ImageTurnsWrongFalsely : Prop := imageTurnsRow.holds Tryz.pinned (OpenSpec.ofChange imageTurnsWrong)

/-- 'cenotaphlaw19.ImageChunks': WHATEVER THE INPUT: true; the input reads as it did. -/
def imageChunksSpec : ChangeSpec := { name := "imageChunks", fn := fun _ => fun
  | [d1, d2] => { results := [.lit (.bool true)], args := [d1, d2] }
  | _ => none }
def imageChunksRow : OpenClaim := { program := "ytmbnifmpbafcjaagreatdoor", sum := "4b10933c1dbb3b5c50e43db56bd5b6835819fb0023cc3f77b9b88beb4204aba1", func := "cenotaph/cenotaphlaw19.ImageChunks", spec := "imageChunks", inPlace := ["internal/abi.NoEscape", "slices.overlaps[string]", "math/bits.Add64"], unfollowed := true, recurses := true, named := ["unicode/utf8.first", "unicode/utf8.acceptRanges"], apart := false, laid := [("unicode/utf8.acceptRanges", laid_unicode_utf8_acceptRanges), ("unicode/utf8.first", laid_unicode_utf8_first)] }
def ImageChunksSaid : Prop := imageChunksRow.holds Tryz.pinned (OpenSpec.ofChange imageChunksSpec)

/-- ITS FALSE NEIGHBOUR: 'it returns false'. Refute it at one input. -/
def imageChunksWrong : ChangeSpec := { name := "imageChunks", fn := fun _ => fun
  | [d1, d2] => { results := [.lit (.bool false)], args := [d1, d2] }
  | _ => none }
def ImageChunksWrongFalsely : Prop := imageChunksRow.holds Tryz.pinned (OpenSpec.ofChange imageChunksWrong)

/-- 'cenotaphlaw19.ImageAppends': WHATEVER THE INPUT: true; the input reads as it did. -/
def imageAppendsSpec : ChangeSpec := { name := "imageAppends", fn := fun _ => fun
  | [d1, d2, d3, d4] => { results := [.lit (.bool true)], args := [d1, d2, d3, d4] }
  | _ => none }
def imageAppendsRow : OpenClaim := { program := "ytmbnifmpbafcjaagreatdoor", sum := "4b10933c1dbb3b5c50e43db56bd5b6835819fb0023cc3f77b9b88beb4204aba1", func := "cenotaph/cenotaphlaw19.ImageAppends", spec := "imageAppends", inPlace := ["internal/abi.NoEscape", "slices.overlaps[string]", "math/bits.Add64"], unfollowed := true, recurses := true, named := ["unicode/utf8.first", "unicode/utf8.acceptRanges"], apart := false, laid := [("unicode/utf8.acceptRanges", laid_unicode_utf8_acceptRanges), ("unicode/utf8.first", laid_unicode_utf8_first)] }
def ImageAppendsSaid : Prop := imageAppendsRow.holds Tryz.pinned (OpenSpec.ofChange imageAppendsSpec)

/-- ITS FALSE NEIGHBOUR: 'it returns false'. Refute it at one input. -/
def imageAppendsWrong : ChangeSpec := { name := "imageAppends", fn := fun _ => fun
  | [d1, d2, d3, d4] => { results := [.lit (.bool false)], args := [d1, d2, d3, d4] }
  | _ => none }
def ImageAppendsWrongFalsely : Prop := imageAppendsRow.holds Tryz.pinned (OpenSpec.ofChange imageAppendsWrong)

/-- 'cenotaphlaw12.CheckTells': WHATEVER THE INPUT: true; the input reads as it did. -/
def checkTellsSpec : ChangeSpec := { name := "checkTells", fn := fun _ => fun
  | [d1, d2, d3, d4] => { results := [.lit (.bool true)], args := [d1, d2, d3, d4] }
  | _ => none }
def checkTellsRow : OpenClaim := { program := "ytmbnifmpbafcjaagreatdoor", sum := "4b10933c1dbb3b5c50e43db56bd5b6835819fb0023cc3f77b9b88beb4204aba1", func := "cenotaph/cenotaphlaw12.CheckTells", spec := "checkTells", inPlace := ["slices.overlaps[string]", "math/bits.Add64", "internal/abi.NoEscape", "internal/reflectlite.ValueOf", "(internal/reflectlite.Value).Type", "(internal/reflectlite.Value).IsNil", "internal/reflectlite.TypeOf", "(internal/reflectlite.Value).Elem", "(internal/reflectlite.Value).Set"], unfollowed := true, recurses := true, named := ["unicode/utf8.first", "unicode/utf8.acceptRanges", "errors.errorType"], apart := false, laid := [("unicode/utf8.acceptRanges", laid_unicode_utf8_acceptRanges), ("errors.errorType", laid_errors_errorType), ("unicode/utf8.first", laid_unicode_utf8_first)] }
def CheckTellsSaid : Prop := checkTellsRow.holds Tryz.pinned (OpenSpec.ofChange checkTellsSpec)

/-- ITS FALSE NEIGHBOUR: 'it returns false'. Refute it at one input. -/
def checkTellsWrong : ChangeSpec := { name := "checkTells", fn := fun _ => fun
  | [d1, d2, d3, d4] => { results := [.lit (.bool false)], args := [d1, d2, d3, d4] }
  | _ => none }
def CheckTellsWrongFalsely : Prop := checkTellsRow.holds Tryz.pinned (OpenSpec.ofChange checkTellsWrong)

/-- 'cenotaphlaw12.CheckHonest': WHATEVER THE INPUT: true; the input reads as it did. -/
def checkHonestSpec : ChangeSpec := { name := "checkHonest", fn := fun _ => fun
  | [d1, d2, d3] => { results := [.lit (.bool true)], args := [d1, d2, d3] }
  | _ => none }
def checkHonestRow : OpenClaim := { program := "ytmbnifmpbafcjaagreatdoor", sum := "4b10933c1dbb3b5c50e43db56bd5b6835819fb0023cc3f77b9b88beb4204aba1", func := "cenotaph/cenotaphlaw12.CheckHonest", spec := "checkHonest", inPlace := ["slices.overlaps[string]", "math/bits.Add64", "internal/abi.NoEscape", "internal/reflectlite.ValueOf", "(internal/reflectlite.Value).Type", "(internal/reflectlite.Value).IsNil", "internal/reflectlite.TypeOf", "(internal/reflectlite.Value).Elem", "(internal/reflectlite.Value).Set"], unfollowed := true, recurses := true, named := ["unicode/utf8.first", "unicode/utf8.acceptRanges", "errors.errorType"], apart := false, laid := [("unicode/utf8.acceptRanges", laid_unicode_utf8_acceptRanges), ("errors.errorType", laid_errors_errorType), ("unicode/utf8.first", laid_unicode_utf8_first)] }
def CheckHonestSaid : Prop := checkHonestRow.holds Tryz.pinned (OpenSpec.ofChange checkHonestSpec)

/-- ITS FALSE NEIGHBOUR: 'it returns false'. Refute it at one input. -/
def checkHonestWrong : ChangeSpec := { name := "checkHonest", fn := fun _ => fun
  | [d1, d2, d3] => { results := [.lit (.bool false)], args := [d1, d2, d3] }
  | _ => none }
def CheckHonestWrongFalsely : Prop := checkHonestRow.holds Tryz.pinned (OpenSpec.ofChange checkHonestWrong)

/-- 'cenotaphlaw12.CheckRuns': WHATEVER THE INPUT: true; the input reads as it did. -/
def checkRunsSpec : ChangeSpec := { name := "checkRuns", fn := fun _ => fun
  | [d1, d2] => { results := [.lit (.bool true)], args := [d1, d2] }
  | _ => none }
def checkRunsRow : OpenClaim := { program := "ytmbnifmpbafcjaagreatdoor", sum := "4b10933c1dbb3b5c50e43db56bd5b6835819fb0023cc3f77b9b88beb4204aba1", func := "cenotaph/cenotaphlaw12.CheckRuns", spec := "checkRuns", inPlace := ["slices.overlaps[string]", "math/bits.Add64", "internal/abi.NoEscape", "internal/reflectlite.ValueOf", "(internal/reflectlite.Value).Type", "(internal/reflectlite.Value).IsNil", "internal/reflectlite.TypeOf", "(internal/reflectlite.Value).Elem", "(internal/reflectlite.Value).Set"], unfollowed := true, recurses := true, named := ["unicode/utf8.first", "unicode/utf8.acceptRanges", "errors.errorType"], apart := false, laid := [("unicode/utf8.acceptRanges", laid_unicode_utf8_acceptRanges), ("errors.errorType", laid_errors_errorType), ("unicode/utf8.first", laid_unicode_utf8_first)] }
def CheckRunsSaid : Prop := checkRunsRow.holds Tryz.pinned (OpenSpec.ofChange checkRunsSpec)

/-- ITS FALSE NEIGHBOUR: 'it returns false'. Refute it at one input. -/
def checkRunsWrong : ChangeSpec := { name := "checkRuns", fn := fun _ => fun
  | [d1, d2] => { results := [.lit (.bool false)], args := [d1, d2] }
  | _ => none }
def CheckRunsWrongFalsely : Prop := checkRunsRow.holds Tryz.pinned (OpenSpec.ofChange checkRunsWrong)

/-- 'cenotaphlaw12.CheckSame': WHATEVER THE INPUT: true; the input reads as it did. -/
def checkSameSpec : ChangeSpec := { name := "checkSame", fn := fun _ => fun
  | [d1, d2] => { results := [.lit (.bool true)], args := [d1, d2] }
  | _ => none }
def checkSameRow : OpenClaim := { program := "ytmbnifmpbafcjaagreatdoor", sum := "4b10933c1dbb3b5c50e43db56bd5b6835819fb0023cc3f77b9b88beb4204aba1", func := "cenotaph/cenotaphlaw12.CheckSame", spec := "checkSame", inPlace := ["slices.overlaps[string]", "math/bits.Add64", "internal/abi.NoEscape", "internal/reflectlite.ValueOf", "(internal/reflectlite.Value).Type", "(internal/reflectlite.Value).IsNil", "internal/reflectlite.TypeOf", "(internal/reflectlite.Value).Elem", "(internal/reflectlite.Value).Set"], unfollowed := true, recurses := true, named := ["unicode/utf8.first", "unicode/utf8.acceptRanges", "errors.errorType"], apart := false, laid := [("unicode/utf8.acceptRanges", laid_unicode_utf8_acceptRanges), ("errors.errorType", laid_errors_errorType), ("unicode/utf8.first", laid_unicode_utf8_first)] }
def CheckSameSaid : Prop := checkSameRow.holds Tryz.pinned (OpenSpec.ofChange checkSameSpec)

/-- ITS FALSE NEIGHBOUR: 'it returns false'. Refute it at one input. -/
def checkSameWrong : ChangeSpec := { name := "checkSame", fn := fun _ => fun
  | [d1, d2] => { results := [.lit (.bool false)], args := [d1, d2] }
  | _ => none }
def CheckSameWrongFalsely : Prop := checkSameRow.holds Tryz.pinned (OpenSpec.ofChange checkSameWrong)

/-- 'cenotaphlaw12.CheckCut': WHATEVER THE INPUT: true; the input reads as it did. -/
def checkCutSpec : ChangeSpec := { name := "checkCut", fn := fun _ => fun
  | [d1, d2, d3] => { results := [.lit (.bool true)], args := [d1, d2, d3] }
  | _ => none }
def checkCutRow : OpenClaim := { program := "ytmbnifmpbafcjaagreatdoor", sum := "4b10933c1dbb3b5c50e43db56bd5b6835819fb0023cc3f77b9b88beb4204aba1", func := "cenotaph/cenotaphlaw12.CheckCut", spec := "checkCut", inPlace := ["slices.overlaps[string]", "math/bits.Add64", "internal/abi.NoEscape", "internal/reflectlite.ValueOf", "(internal/reflectlite.Value).Type", "(internal/reflectlite.Value).IsNil", "internal/reflectlite.TypeOf", "(internal/reflectlite.Value).Elem", "(internal/reflectlite.Value).Set"], unfollowed := true, recurses := true, named := ["unicode/utf8.first", "unicode/utf8.acceptRanges", "errors.errorType"], apart := false, laid := [("unicode/utf8.acceptRanges", laid_unicode_utf8_acceptRanges), ("errors.errorType", laid_errors_errorType), ("unicode/utf8.first", laid_unicode_utf8_first)] }
def CheckCutSaid : Prop := checkCutRow.holds Tryz.pinned (OpenSpec.ofChange checkCutSpec)

/-- ITS FALSE NEIGHBOUR: 'it returns false'. Refute it at one input. -/
def checkCutWrong : ChangeSpec := { name := "checkCut", fn := fun _ => fun
  | [d1, d2, d3] => { results := [.lit (.bool false)], args := [d1, d2, d3] }
  | _ => none }
def CheckCutWrongFalsely : Prop := checkCutRow.holds Tryz.pinned (OpenSpec.ofChange checkCutWrong)

/-- 'cenotaphlaw12.CheckProofs': WHATEVER THE INPUT: true; the input reads as it did. -/
def checkProofsSpec : ChangeSpec := { name := "checkProofs", fn := fun _ => fun
  | [d1, d2] => { results := [.lit (.bool true)], args := [d1, d2] }
  | _ => none }
def checkProofsRow : OpenClaim := { program := "ytmbnifmpbafcjaagreatdoor", sum := "4b10933c1dbb3b5c50e43db56bd5b6835819fb0023cc3f77b9b88beb4204aba1", func := "cenotaph/cenotaphlaw12.CheckProofs", spec := "checkProofs", inPlace := ["slices.overlaps[string]", "math/bits.Add64", "internal/abi.NoEscape", "internal/reflectlite.ValueOf", "(internal/reflectlite.Value).Type", "(internal/reflectlite.Value).IsNil", "internal/reflectlite.TypeOf", "(internal/reflectlite.Value).Elem", "(internal/reflectlite.Value).Set"], unfollowed := true, recurses := true, named := ["unicode/utf8.first", "unicode/utf8.acceptRanges", "errors.errorType"], apart := false, laid := [("unicode/utf8.acceptRanges", laid_unicode_utf8_acceptRanges), ("errors.errorType", laid_errors_errorType), ("unicode/utf8.first", laid_unicode_utf8_first)] }
def CheckProofsSaid : Prop := checkProofsRow.holds Tryz.pinned (OpenSpec.ofChange checkProofsSpec)

/-- ITS FALSE NEIGHBOUR: 'it returns false'. Refute it at one input. -/
def checkProofsWrong : ChangeSpec := { name := "checkProofs", fn := fun _ => fun
  | [d1, d2] => { results := [.lit (.bool false)], args := [d1, d2] }
  | _ => none }
def CheckProofsWrongFalsely : Prop := checkProofsRow.holds Tryz.pinned (OpenSpec.ofChange checkProofsWrong)

/-- 'cenotaphlaw12.CheckForged': WHATEVER THE INPUT: true; the input reads as it did. -/
def checkForgedSpec : ChangeSpec := { name := "checkForged", fn := fun _ => fun
  | [d1, d2] => { results := [.lit (.bool true)], args := [d1, d2] }
  | _ => none }
def checkForgedRow : OpenClaim := { program := "ytmbnifmpbafcjaagreatdoor", sum := "4b10933c1dbb3b5c50e43db56bd5b6835819fb0023cc3f77b9b88beb4204aba1", func := "cenotaph/cenotaphlaw12.CheckForged", spec := "checkForged", inPlace := ["slices.overlaps[string]", "math/bits.Add64", "internal/abi.NoEscape", "internal/reflectlite.ValueOf", "(internal/reflectlite.Value).Type", "(internal/reflectlite.Value).IsNil", "internal/reflectlite.TypeOf", "(internal/reflectlite.Value).Elem", "(internal/reflectlite.Value).Set"], unfollowed := true, recurses := true, named := ["unicode/utf8.first", "unicode/utf8.acceptRanges", "errors.errorType"], apart := false, laid := [("unicode/utf8.acceptRanges", laid_unicode_utf8_acceptRanges), ("errors.errorType", laid_errors_errorType), ("unicode/utf8.first", laid_unicode_utf8_first)] }
def CheckForgedSaid : Prop := checkForgedRow.holds Tryz.pinned (OpenSpec.ofChange checkForgedSpec)

/-- ITS FALSE NEIGHBOUR: 'it returns false'. Refute it at one input. -/
def checkForgedWrong : ChangeSpec := { name := "checkForged", fn := fun _ => fun
  | [d1, d2] => { results := [.lit (.bool false)], args := [d1, d2] }
  | _ => none }
def CheckForgedWrongFalsely : Prop := checkForgedRow.holds Tryz.pinned (OpenSpec.ofChange checkForgedWrong)

/- THE SECOND FORM. 'bulk': how many values and letters a reading holds, each counted each time it is reached (what is shared counts as often as it is met; a slice's spare places count too). A statement '..UptoSaid' is the law's where the arguments, and the package variables that the reading takes, are together of bulk at most 1048576: NARROWER than '..Said'. Prove '..Said' where nothing that the law and all that it calls make is longer than what came in: it says more and counts as full. Else prove '..UptoSaid'. A law counts once. -/
mutual
def uptoBulk {H : Type} : DataW H → Nat
  | .lit (.string bytes) => bytes.length + 1
  | .lit _ => 1
  | .nil => 1
  | .ptr d => uptoBulk d + 1
  | .slice elems spare => uptoBulkAll elems + uptoBulkAll spare + 1
  | .agg parts => uptoBulkAll parts + 1
  | .iface _ d => uptoBulk d + 1
  | .map entries => uptoBulkEntries entries + 1
  | .held _ => 1
def uptoBulkAll {H : Type} : List (DataW H) → Nat
  | [] => 0
  | d :: r => uptoBulk d + uptoBulkAll r
def uptoBulkEntries {H : Type} : List (Lit × DataW H) → Nat
  | [] => 0
  | x :: r => uptoBulkEntry x + uptoBulkEntries r
def uptoBulkEntry {H : Type} : Lit × DataW H → Nat
  | (.string bytes, d) => bytes.length + uptoBulk d + 1
  | (_, d) => uptoBulk d + 1
 end
def uptoSmall : (H : Type) → List (DataW H) → Bool := fun _ ds => decide (uptoBulkAll ds ≤ 1048576)
def OpenSpec.upto (s : _root_.Go.ChangeSpec) : _root_.Go.OpenSpec := { _root_.Go.OpenSpec.ofChange s with cond := some uptoSmall }

/-- 'cenotaphlaw19.ImagePuts', WHERE WHAT IT READS IS OF BULK AT MOST 1048576: true; the input reads as it did. -/
def imagePutsUptoRow : OpenClaim := { program := "ytmbnifmpbafcjaagreatdoor", sum := "4b10933c1dbb3b5c50e43db56bd5b6835819fb0023cc3f77b9b88beb4204aba1", func := "cenotaph/cenotaphlaw19.ImagePuts", spec := "imagePuts", inPlace := ["internal/abi.NoEscape", "slices.overlaps[string]", "math/bits.Add64"], unfollowed := true, recurses := true, named := ["unicode/utf8.first", "unicode/utf8.acceptRanges"], apart := false, laid := [("unicode/utf8.acceptRanges", laid_unicode_utf8_acceptRanges), ("unicode/utf8.first", laid_unicode_utf8_first)], narrowed := true }
def ImagePutsUptoSaid : Prop := imagePutsUptoRow.holds Tryz.pinned (OpenSpec.upto imagePutsSpec)

/-- 'cenotaphlaw19.ImageBack', WHERE WHAT IT READS IS OF BULK AT MOST 1048576: true; the input reads as it did. -/
def imageBackUptoRow : OpenClaim := { program := "ytmbnifmpbafcjaagreatdoor", sum := "4b10933c1dbb3b5c50e43db56bd5b6835819fb0023cc3f77b9b88beb4204aba1", func := "cenotaph/cenotaphlaw19.ImageBack", spec := "imageBack", inPlace := ["internal/abi.NoEscape", "slices.overlaps[string]", "math/bits.Add64"], unfollowed := true, recurses := true, named := ["unicode/utf8.first", "unicode/utf8.acceptRanges"], apart := false, laid := [("unicode/utf8.acceptRanges", laid_unicode_utf8_acceptRanges), ("unicode/utf8.first", laid_unicode_utf8_first)], narrowed := true }
def ImageBackUptoSaid : Prop := imageBackUptoRow.holds Tryz.pinned (OpenSpec.upto imageBackSpec)

/-- 'cenotaphlaw19.ImageTurns', WHERE WHAT IT READS IS OF BULK AT MOST 1048576: true; the input reads as it did. -/
def imageTurnsUptoRow : OpenClaim := { program := "ytmbnifmpbafcjaagreatdoor", sum := "4b10933c1dbb3b5c50e43db56bd5b6835819fb0023cc3f77b9b88beb4204aba1", func := "cenotaph/cenotaphlaw19.ImageTurns", spec := "imageTurns", inPlace := ["internal/abi.NoEscape", "slices.overlaps[string]", "math/bits.Add64"], unfollowed := true, recurses := true, named := ["unicode/utf8.first", "unicode/utf8.acceptRanges"], apart := false, laid := [("unicode/utf8.acceptRanges", laid_unicode_utf8_acceptRanges), ("unicode/utf8.first", laid_unicode_utf8_first)], narrowed := true }
def ImageTurnsUptoSaid : Prop := imageTurnsUptoRow.holds Tryz.pinned (OpenSpec.upto imageTurnsSpec)

/-- 'cenotaphlaw19.ImageChunks', WHERE WHAT IT READS IS OF BULK AT MOST 1048576: true; the input reads as it did. -/
def imageChunksUptoRow : OpenClaim := { program := "ytmbnifmpbafcjaagreatdoor", sum := "4b10933c1dbb3b5c50e43db56bd5b6835819fb0023cc3f77b9b88beb4204aba1", func := "cenotaph/cenotaphlaw19.ImageChunks", spec := "imageChunks", inPlace := ["internal/abi.NoEscape", "slices.overlaps[string]", "math/bits.Add64"], unfollowed := true, recurses := true, named := ["unicode/utf8.first", "unicode/utf8.acceptRanges"], apart := false, laid := [("unicode/utf8.acceptRanges", laid_unicode_utf8_acceptRanges), ("unicode/utf8.first", laid_unicode_utf8_first)], narrowed := true }
def ImageChunksUptoSaid : Prop := imageChunksUptoRow.holds Tryz.pinned (OpenSpec.upto imageChunksSpec)

/-- 'cenotaphlaw19.ImageAppends', WHERE WHAT IT READS IS OF BULK AT MOST 1048576: true; the input reads as it did. -/
def imageAppendsUptoRow : OpenClaim := { program := "ytmbnifmpbafcjaagreatdoor", sum := "4b10933c1dbb3b5c50e43db56bd5b6835819fb0023cc3f77b9b88beb4204aba1", func := "cenotaph/cenotaphlaw19.ImageAppends", spec := "imageAppends", inPlace := ["internal/abi.NoEscape", "slices.overlaps[string]", "math/bits.Add64"], unfollowed := true, recurses := true, named := ["unicode/utf8.first", "unicode/utf8.acceptRanges"], apart := false, laid := [("unicode/utf8.acceptRanges", laid_unicode_utf8_acceptRanges), ("unicode/utf8.first", laid_unicode_utf8_first)], narrowed := true }
def ImageAppendsUptoSaid : Prop := imageAppendsUptoRow.holds Tryz.pinned (OpenSpec.upto imageAppendsSpec)

/-- 'cenotaphlaw12.CheckTells', WHERE WHAT IT READS IS OF BULK AT MOST 1048576: true; the input reads as it did. -/
def checkTellsUptoRow : OpenClaim := { program := "ytmbnifmpbafcjaagreatdoor", sum := "4b10933c1dbb3b5c50e43db56bd5b6835819fb0023cc3f77b9b88beb4204aba1", func := "cenotaph/cenotaphlaw12.CheckTells", spec := "checkTells", inPlace := ["slices.overlaps[string]", "math/bits.Add64", "internal/abi.NoEscape", "internal/reflectlite.ValueOf", "(internal/reflectlite.Value).Type", "(internal/reflectlite.Value).IsNil", "internal/reflectlite.TypeOf", "(internal/reflectlite.Value).Elem", "(internal/reflectlite.Value).Set"], unfollowed := true, recurses := true, named := ["unicode/utf8.first", "unicode/utf8.acceptRanges", "errors.errorType"], apart := false, laid := [("unicode/utf8.acceptRanges", laid_unicode_utf8_acceptRanges), ("errors.errorType", laid_errors_errorType), ("unicode/utf8.first", laid_unicode_utf8_first)], narrowed := true }
def CheckTellsUptoSaid : Prop := checkTellsUptoRow.holds Tryz.pinned (OpenSpec.upto checkTellsSpec)

/-- 'cenotaphlaw12.CheckHonest', WHERE WHAT IT READS IS OF BULK AT MOST 1048576: true; the input reads as it did. -/
def checkHonestUptoRow : OpenClaim := { program := "ytmbnifmpbafcjaagreatdoor", sum := "4b10933c1dbb3b5c50e43db56bd5b6835819fb0023cc3f77b9b88beb4204aba1", func := "cenotaph/cenotaphlaw12.CheckHonest", spec := "checkHonest", inPlace := ["slices.overlaps[string]", "math/bits.Add64", "internal/abi.NoEscape", "internal/reflectlite.ValueOf", "(internal/reflectlite.Value).Type", "(internal/reflectlite.Value).IsNil", "internal/reflectlite.TypeOf", "(internal/reflectlite.Value).Elem", "(internal/reflectlite.Value).Set"], unfollowed := true, recurses := true, named := ["unicode/utf8.first", "unicode/utf8.acceptRanges", "errors.errorType"], apart := false, laid := [("unicode/utf8.acceptRanges", laid_unicode_utf8_acceptRanges), ("errors.errorType", laid_errors_errorType), ("unicode/utf8.first", laid_unicode_utf8_first)], narrowed := true }
def CheckHonestUptoSaid : Prop := checkHonestUptoRow.holds Tryz.pinned (OpenSpec.upto checkHonestSpec)

/-- 'cenotaphlaw12.CheckRuns', WHERE WHAT IT READS IS OF BULK AT MOST 1048576: true; the input reads as it did. -/
def checkRunsUptoRow : OpenClaim := { program := "ytmbnifmpbafcjaagreatdoor", sum := "4b10933c1dbb3b5c50e43db56bd5b6835819fb0023cc3f77b9b88beb4204aba1", func := "cenotaph/cenotaphlaw12.CheckRuns", spec := "checkRuns", inPlace := ["slices.overlaps[string]", "math/bits.Add64", "internal/abi.NoEscape", "internal/reflectlite.ValueOf", "(internal/reflectlite.Value).Type", "(internal/reflectlite.Value).IsNil", "internal/reflectlite.TypeOf", "(internal/reflectlite.Value).Elem", "(internal/reflectlite.Value).Set"], unfollowed := true, recurses := true, named := ["unicode/utf8.first", "unicode/utf8.acceptRanges", "errors.errorType"], apart := false, laid := [("unicode/utf8.acceptRanges", laid_unicode_utf8_acceptRanges), ("errors.errorType", laid_errors_errorType), ("unicode/utf8.first", laid_unicode_utf8_first)], narrowed := true }
def CheckRunsUptoSaid : Prop := checkRunsUptoRow.holds Tryz.pinned (OpenSpec.upto checkRunsSpec)

/-- 'cenotaphlaw12.CheckSame', WHERE WHAT IT READS IS OF BULK AT MOST 1048576: true; the input reads as it did. -/
def checkSameUptoRow : OpenClaim := { program := "ytmbnifmpbafcjaagreatdoor", sum := "4b10933c1dbb3b5c50e43db56bd5b6835819fb0023cc3f77b9b88beb4204aba1", func := "cenotaph/cenotaphlaw12.CheckSame", spec := "checkSame", inPlace := ["slices.overlaps[string]", "math/bits.Add64", "internal/abi.NoEscape", "internal/reflectlite.ValueOf", "(internal/reflectlite.Value).Type", "(internal/reflectlite.Value).IsNil", "internal/reflectlite.TypeOf", "(internal/reflectlite.Value).Elem", "(internal/reflectlite.Value).Set"], unfollowed := true, recurses := true, named := ["unicode/utf8.first", "unicode/utf8.acceptRanges", "errors.errorType"], apart := false, laid := [("unicode/utf8.acceptRanges", laid_unicode_utf8_acceptRanges), ("errors.errorType", laid_errors_errorType), ("unicode/utf8.first", laid_unicode_utf8_first)], narrowed := true }
def CheckSameUptoSaid : Prop := checkSameUptoRow.holds Tryz.pinned (OpenSpec.upto checkSameSpec)

/-- 'cenotaphlaw12.CheckCut', WHERE WHAT IT READS IS OF BULK AT MOST 1048576: true; the input reads as it did. -/
def checkCutUptoRow : OpenClaim := { program := "ytmbnifmpbafcjaagreatdoor", sum := "4b10933c1dbb3b5c50e43db56bd5b6835819fb0023cc3f77b9b88beb4204aba1", func := "cenotaph/cenotaphlaw12.CheckCut", spec := "checkCut", inPlace := ["slices.overlaps[string]", "math/bits.Add64", "internal/abi.NoEscape", "internal/reflectlite.ValueOf", "(internal/reflectlite.Value).Type", "(internal/reflectlite.Value).IsNil", "internal/reflectlite.TypeOf", "(internal/reflectlite.Value).Elem", "(internal/reflectlite.Value).Set"], unfollowed := true, recurses := true, named := ["unicode/utf8.first", "unicode/utf8.acceptRanges", "errors.errorType"], apart := false, laid := [("unicode/utf8.acceptRanges", laid_unicode_utf8_acceptRanges), ("errors.errorType", laid_errors_errorType), ("unicode/utf8.first", laid_unicode_utf8_first)], narrowed := true }
def CheckCutUptoSaid : Prop := checkCutUptoRow.holds Tryz.pinned (OpenSpec.upto checkCutSpec)

/-- 'cenotaphlaw12.CheckProofs', WHERE WHAT IT READS IS OF BULK AT MOST 1048576: true; the input reads as it did. -/
def checkProofsUptoRow : OpenClaim := { program := "ytmbnifmpbafcjaagreatdoor", sum := "4b10933c1dbb3b5c50e43db56bd5b6835819fb0023cc3f77b9b88beb4204aba1", func := "cenotaph/cenotaphlaw12.CheckProofs", spec := "checkProofs", inPlace := ["slices.overlaps[string]", "math/bits.Add64", "internal/abi.NoEscape", "internal/reflectlite.ValueOf", "(internal/reflectlite.Value).Type", "(internal/reflectlite.Value).IsNil", "internal/reflectlite.TypeOf", "(internal/reflectlite.Value).Elem", "(internal/reflectlite.Value).Set"], unfollowed := true, recurses := true, named := ["unicode/utf8.first", "unicode/utf8.acceptRanges", "errors.errorType"], apart := false, laid := [("unicode/utf8.acceptRanges", laid_unicode_utf8_acceptRanges), ("errors.errorType", laid_errors_errorType), ("unicode/utf8.first", laid_unicode_utf8_first)], narrowed := true }
def CheckProofsUptoSaid : Prop := checkProofsUptoRow.holds Tryz.pinned (OpenSpec.upto checkProofsSpec)

/-- 'cenotaphlaw12.CheckForged', WHERE WHAT IT READS IS OF BULK AT MOST 1048576: true; the input reads as it did. -/
def checkForgedUptoRow : OpenClaim := { program := "ytmbnifmpbafcjaagreatdoor", sum := "4b10933c1dbb3b5c50e43db56bd5b6835819fb0023cc3f77b9b88beb4204aba1", func := "cenotaph/cenotaphlaw12.CheckForged", spec := "checkForged", inPlace := ["slices.overlaps[string]", "math/bits.Add64", "internal/abi.NoEscape", "internal/reflectlite.ValueOf", "(internal/reflectlite.Value).Type", "(internal/reflectlite.Value).IsNil", "internal/reflectlite.TypeOf", "(internal/reflectlite.Value).Elem", "(internal/reflectlite.Value).Set"], unfollowed := true, recurses := true, named := ["unicode/utf8.first", "unicode/utf8.acceptRanges", "errors.errorType"], apart := false, laid := [("unicode/utf8.acceptRanges", laid_unicode_utf8_acceptRanges), ("errors.errorType", laid_errors_errorType), ("unicode/utf8.first", laid_unicode_utf8_first)], narrowed := true }
def CheckForgedUptoSaid : Prop := checkForgedUptoRow.holds Tryz.pinned (OpenSpec.upto checkForgedSpec)

end Rows
end Go.Proofs.YtmbnifmpbafcjaaGreatDoor
