/-
  NARROWER THAN 'FOR EVERY INPUT', by the rows' own cells (each row's printed sentence says how): ReplayParts: laid · ReplayTicks: laid · ReplayLens: laid · ModelApart: laid · ModelLists: laid · ModelNumbers: laid · ModelSweeps: laid · ModelKeeps: laid · ModelStays: laid.
  DERIVED. THE GIVEN ROWS OF THIS SEAT. 9 by the template 'for every input the law returns true; each argument reads behind the call as it read before'; 0 by the template 'total and deterministic' (their statements: YtonknblidjpfeaaDoorTotals.lean).
  GIVEN WITH THE SEED: the statements are not yours to turn. If you find one false, say at which input.
  Laid BY PROGRAM, IN A SANDBOX (cutbox-rows.mjs): the forced cells as the released guide's own fill.sh prints them over the translation 53cd0b21a7c44dbb… (all of the seat's roots in one cut). By AI agents, Wed Nov 11 2026. No macro, syntax, notation, axiom, sorry.
-/
import Derived.Test.YtonknblidjpfeaaDoorChecked
import GoSem.PinnedTables
import GoSem.Claim
import GoSem.ClaimJoined
import GoSem.ClaimMapViews
import Derived.JoinedTies
import Derived.KernelRfl
namespace Go.Proofs.YtonknblidjpfeaaDoor
/- THE CELL 'sum', in the pinned program and in every row, IS THE sha256 OF THE DUMP (.gsa) THAT YtonknblidjpfeaaDoorProg.lean LOADS. Nothing in Lean hashes anything: it is a label: what it is worth is what the hold of that sum in a sandbox is worth. -/
noncomputable def Tryd.pinned : Pinned := { name := "ytonknblidjpfeaadoor", sum := "53cd0b21a7c44dbbdd9b6098cc0a5d1befed0f38f9516da2f37b626f768f70ac", checked := Tryd.checked }
namespace Rows
def none {H : Type} : Left H := { results := [], args := [] }

/- WHAT THE LISTED PACKAGE-LEVEL VARIABLES READ AS WHEN THE CALL BEGINS. Each datum BY PROGRAM (the guide's laid-datum.mjs) off the statement by which the dump's own 'gosem.cut.vars' lays the variable. In a bare row this is a premise. The card (YtonknblidjpfeaaDoorCards.lean) ties it to the program's text. -/
def laid_unicode_utf8_acceptRanges {H : Type} : DataW H := .agg [.agg [.lit (.int .u8 128), .lit (.int .u8 191)], .agg [.lit (.int .u8 160), .lit (.int .u8 191)], .agg [.lit (.int .u8 128), .lit (.int .u8 159)], .agg [.lit (.int .u8 144), .lit (.int .u8 191)], .agg [.lit (.int .u8 128), .lit (.int .u8 143)], .agg [.lit (.int .u8 0), .lit (.int .u8 0)], .agg [.lit (.int .u8 0), .lit (.int .u8 0)], .agg [.lit (.int .u8 0), .lit (.int .u8 0)], .agg [.lit (.int .u8 0), .lit (.int .u8 0)], .agg [.lit (.int .u8 0), .lit (.int .u8 0)], .agg [.lit (.int .u8 0), .lit (.int .u8 0)], .agg [.lit (.int .u8 0), .lit (.int .u8 0)], .agg [.lit (.int .u8 0), .lit (.int .u8 0)], .agg [.lit (.int .u8 0), .lit (.int .u8 0)], .agg [.lit (.int .u8 0), .lit (.int .u8 0)], .agg [.lit (.int .u8 0), .lit (.int .u8 0)]]
/-- One of Go's own tables, pinned by name: the form's constant. -/
def laid_unicode_utf8_first : DataW Unit := Go.Pinned.utf8First

/-- 'cenotaphlaw10.ReplayParts': WHATEVER THE INPUT: true; the input reads as it did. -/
def replayPartsSpec : ChangeSpec := { name := "replayParts", fn := fun _ => fun
  | [d1, d2] => { results := [.lit (.bool true)], args := [d1, d2] }
  | _ => none }
def replayPartsRow : OpenClaim := { program := "ytonknblidjpfeaadoor", sum := "53cd0b21a7c44dbbdd9b6098cc0a5d1befed0f38f9516da2f37b626f768f70ac", func := "cenotaph/cenotaphlaw10.ReplayParts", spec := "replayParts", inPlace := ["slices.overlaps[string]"], unfollowed := true, recurses := true, named := ["unicode/utf8.first", "unicode/utf8.acceptRanges"], apart := false, laid := [("unicode/utf8.acceptRanges", laid_unicode_utf8_acceptRanges), ("unicode/utf8.first", laid_unicode_utf8_first)] }
def ReplayPartsSaid : Prop := replayPartsRow.holds Tryd.pinned (OpenSpec.ofChange replayPartsSpec)

/-- ITS FALSE NEIGHBOUR: 'it returns false'. Refute it at one input. -/
def replayPartsWrong : ChangeSpec := { name := "replayParts", fn := fun _ => fun
  | [d1, d2] => { results := [.lit (.bool false)], args := [d1, d2] }
  | _ => none }
def ReplayPartsWrongFalsely : Prop := replayPartsRow.holds Tryd.pinned (OpenSpec.ofChange replayPartsWrong)

/-- 'cenotaphlaw10.ReplayTicks': WHATEVER THE INPUT: true; the input reads as it did. -/
def replayTicksSpec : ChangeSpec := { name := "replayTicks", fn := fun _ => fun
  | [d] => { results := [.lit (.bool true)], args := [d] }
  | _ => none }
def replayTicksRow : OpenClaim := { program := "ytonknblidjpfeaadoor", sum := "53cd0b21a7c44dbbdd9b6098cc0a5d1befed0f38f9516da2f37b626f768f70ac", func := "cenotaph/cenotaphlaw10.ReplayTicks", spec := "replayTicks", inPlace := ["slices.overlaps[string]"], unfollowed := true, recurses := true, named := ["unicode/utf8.first", "unicode/utf8.acceptRanges"], apart := false, laid := [("unicode/utf8.acceptRanges", laid_unicode_utf8_acceptRanges), ("unicode/utf8.first", laid_unicode_utf8_first)] }
def ReplayTicksSaid : Prop := replayTicksRow.holds Tryd.pinned (OpenSpec.ofChange replayTicksSpec)

/-- ITS FALSE NEIGHBOUR: 'it returns false'. Refute it at one input. -/
def replayTicksWrong : ChangeSpec := { name := "replayTicks", fn := fun _ => fun
  | [d] => { results := [.lit (.bool false)], args := [d] }
  | _ => none }
def ReplayTicksWrongFalsely : Prop := replayTicksRow.holds Tryd.pinned (OpenSpec.ofChange replayTicksWrong)

/-- 'cenotaphlaw10.ReplayLens': WHATEVER THE INPUT: true; the input reads as it did. -/
def replayLensSpec : ChangeSpec := { name := "replayLens", fn := fun _ => fun
  | [d] => { results := [.lit (.bool true)], args := [d] }
  | _ => none }
def replayLensRow : OpenClaim := { program := "ytonknblidjpfeaadoor", sum := "53cd0b21a7c44dbbdd9b6098cc0a5d1befed0f38f9516da2f37b626f768f70ac", func := "cenotaph/cenotaphlaw10.ReplayLens", spec := "replayLens", inPlace := ["slices.overlaps[string]"], unfollowed := true, recurses := true, named := ["unicode/utf8.first", "unicode/utf8.acceptRanges"], apart := false, laid := [("unicode/utf8.acceptRanges", laid_unicode_utf8_acceptRanges), ("unicode/utf8.first", laid_unicode_utf8_first)] }
def ReplayLensSaid : Prop := replayLensRow.holds Tryd.pinned (OpenSpec.ofChange replayLensSpec)

/-- ITS FALSE NEIGHBOUR: 'it returns false'. Refute it at one input. -/
def replayLensWrong : ChangeSpec := { name := "replayLens", fn := fun _ => fun
  | [d] => { results := [.lit (.bool false)], args := [d] }
  | _ => none }
def ReplayLensWrongFalsely : Prop := replayLensRow.holds Tryd.pinned (OpenSpec.ofChange replayLensWrong)

/-- 'cenotaphlaw09.ModelApart': WHATEVER THE INPUT: true; the input reads as it did. -/
def modelApartSpec : ChangeSpec := { name := "modelApart", fn := fun _ => fun
  | [d1, d2, d3] => { results := [.lit (.bool true)], args := [d1, d2, d3] }
  | _ => none }
def modelApartRow : OpenClaim := { program := "ytonknblidjpfeaadoor", sum := "53cd0b21a7c44dbbdd9b6098cc0a5d1befed0f38f9516da2f37b626f768f70ac", func := "cenotaph/cenotaphlaw09.ModelApart", spec := "modelApart", inPlace := ["slices.overlaps[string]", "math/bits.Add64"], unfollowed := true, recurses := true, named := ["unicode/utf8.first", "unicode/utf8.acceptRanges"], apart := false, laid := [("unicode/utf8.acceptRanges", laid_unicode_utf8_acceptRanges), ("unicode/utf8.first", laid_unicode_utf8_first)] }
def ModelApartSaid : Prop := modelApartRow.holds Tryd.pinned (OpenSpec.ofChange modelApartSpec)

/-- ITS FALSE NEIGHBOUR: 'it returns false'. Refute it at one input. -/
def modelApartWrong : ChangeSpec := { name := "modelApart", fn := fun _ => fun
  | [d1, d2, d3] => { results := [.lit (.bool false)], args := [d1, d2, d3] }
  | _ => none }
def ModelApartWrongFalsely : Prop := modelApartRow.holds Tryd.pinned (OpenSpec.ofChange modelApartWrong)

/-- 'cenotaphlaw09.ModelLists': WHATEVER THE INPUT: true; the input reads as it did. -/
def modelListsSpec : ChangeSpec := { name := "modelLists", fn := fun _ => fun
  | [d] => { results := [.lit (.bool true)], args := [d] }
  | _ => none }
def modelListsRow : OpenClaim := { program := "ytonknblidjpfeaadoor", sum := "53cd0b21a7c44dbbdd9b6098cc0a5d1befed0f38f9516da2f37b626f768f70ac", func := "cenotaph/cenotaphlaw09.ModelLists", spec := "modelLists", inPlace := ["slices.overlaps[string]", "math/bits.Add64"], unfollowed := true, recurses := true, named := ["unicode/utf8.first", "unicode/utf8.acceptRanges"], apart := false, laid := [("unicode/utf8.acceptRanges", laid_unicode_utf8_acceptRanges), ("unicode/utf8.first", laid_unicode_utf8_first)] }
def ModelListsSaid : Prop := modelListsRow.holds Tryd.pinned (OpenSpec.ofChange modelListsSpec)

/-- ITS FALSE NEIGHBOUR: 'it returns false'. Refute it at one input. -/
def modelListsWrong : ChangeSpec := { name := "modelLists", fn := fun _ => fun
  | [d] => { results := [.lit (.bool false)], args := [d] }
  | _ => none }
def ModelListsWrongFalsely : Prop := modelListsRow.holds Tryd.pinned (OpenSpec.ofChange modelListsWrong)

/-- 'cenotaphlaw09.ModelNumbers': WHATEVER THE INPUT: true; the input reads as it did. -/
def modelNumbersSpec : ChangeSpec := { name := "modelNumbers", fn := fun _ => fun
  | [d1, d2] => { results := [.lit (.bool true)], args := [d1, d2] }
  | _ => none }
def modelNumbersRow : OpenClaim := { program := "ytonknblidjpfeaadoor", sum := "53cd0b21a7c44dbbdd9b6098cc0a5d1befed0f38f9516da2f37b626f768f70ac", func := "cenotaph/cenotaphlaw09.ModelNumbers", spec := "modelNumbers", inPlace := ["slices.overlaps[string]", "math/bits.Add64"], unfollowed := true, recurses := true, named := ["unicode/utf8.first", "unicode/utf8.acceptRanges"], apart := false, laid := [("unicode/utf8.acceptRanges", laid_unicode_utf8_acceptRanges), ("unicode/utf8.first", laid_unicode_utf8_first)] }
def ModelNumbersSaid : Prop := modelNumbersRow.holds Tryd.pinned (OpenSpec.ofChange modelNumbersSpec)

/-- ITS FALSE NEIGHBOUR: 'it returns false'. Refute it at one input. -/
def modelNumbersWrong : ChangeSpec := { name := "modelNumbers", fn := fun _ => fun
  | [d1, d2] => { results := [.lit (.bool false)], args := [d1, d2] }
  | _ => none }
def ModelNumbersWrongFalsely : Prop := modelNumbersRow.holds Tryd.pinned (OpenSpec.ofChange modelNumbersWrong)

/-- 'cenotaphlaw09.ModelSweeps': WHATEVER THE INPUT: true; the input reads as it did. -/
def modelSweepsSpec : ChangeSpec := { name := "modelSweeps", fn := fun _ => fun
  | [d] => { results := [.lit (.bool true)], args := [d] }
  | _ => none }
def modelSweepsRow : OpenClaim := { program := "ytonknblidjpfeaadoor", sum := "53cd0b21a7c44dbbdd9b6098cc0a5d1befed0f38f9516da2f37b626f768f70ac", func := "cenotaph/cenotaphlaw09.ModelSweeps", spec := "modelSweeps", inPlace := ["slices.overlaps[string]", "math/bits.Add64"], unfollowed := true, recurses := true, named := ["unicode/utf8.first", "unicode/utf8.acceptRanges"], apart := false, laid := [("unicode/utf8.acceptRanges", laid_unicode_utf8_acceptRanges), ("unicode/utf8.first", laid_unicode_utf8_first)] }
def ModelSweepsSaid : Prop := modelSweepsRow.holds Tryd.pinned (OpenSpec.ofChange modelSweepsSpec)

/-- ITS FALSE NEIGHBOUR: 'it returns false'. Refute it at one input. -/
def modelSweepsWrong : ChangeSpec := { name := "modelSweeps", fn := fun _ => fun
  | [d] => { results := [.lit (.bool false)], args := [d] }
  | _ => none }
def ModelSweepsWrongFalsely : Prop := modelSweepsRow.holds Tryd.pinned (OpenSpec.ofChange modelSweepsWrong)

/-- 'cenotaphlaw09.ModelKeeps': WHATEVER THE INPUT: true; the input reads as it did. -/
def modelKeepsSpec : ChangeSpec := { name := "modelKeeps", fn := fun _ => fun
  | [d1, d2, d3, d4, d5] => { results := [.lit (.bool true)], args := [d1, d2, d3, d4, d5] }
  | _ => none }
def modelKeepsRow : OpenClaim := { program := "ytonknblidjpfeaadoor", sum := "53cd0b21a7c44dbbdd9b6098cc0a5d1befed0f38f9516da2f37b626f768f70ac", func := "cenotaph/cenotaphlaw09.ModelKeeps", spec := "modelKeeps", inPlace := ["slices.overlaps[string]", "math/bits.Add64"], unfollowed := true, recurses := true, named := ["unicode/utf8.first", "unicode/utf8.acceptRanges"], apart := false, laid := [("unicode/utf8.acceptRanges", laid_unicode_utf8_acceptRanges), ("unicode/utf8.first", laid_unicode_utf8_first)] }
def ModelKeepsSaid : Prop := modelKeepsRow.holds Tryd.pinned (OpenSpec.ofChange modelKeepsSpec)

/-- ITS FALSE NEIGHBOUR: 'it returns false'. Refute it at one input. -/
def modelKeepsWrong : ChangeSpec := { name := "modelKeeps", fn := fun _ => fun
  | [d1, d2, d3, d4, d5] => { results := [.lit (.bool false)], args := [d1, d2, d3, d4, d5] }
  | _ => none }
def ModelKeepsWrongFalsely : Prop := modelKeepsRow.holds Tryd.pinned (OpenSpec.ofChange modelKeepsWrong)

/-- 'cenotaphlaw09.ModelStays': WHATEVER THE INPUT: true; the input reads as it did. -/
def modelStaysSpec : ChangeSpec := { name := "modelStays", fn := fun _ => fun
  | [d] => { results := [.lit (.bool true)], args := [d] }
  | _ => none }
def modelStaysRow : OpenClaim := { program := "ytonknblidjpfeaadoor", sum := "53cd0b21a7c44dbbdd9b6098cc0a5d1befed0f38f9516da2f37b626f768f70ac", func := "cenotaph/cenotaphlaw09.ModelStays", spec := "modelStays", inPlace := ["slices.overlaps[string]", "math/bits.Add64"], unfollowed := true, recurses := true, named := ["unicode/utf8.first", "unicode/utf8.acceptRanges"], apart := false, laid := [("unicode/utf8.acceptRanges", laid_unicode_utf8_acceptRanges), ("unicode/utf8.first", laid_unicode_utf8_first)] }
def ModelStaysSaid : Prop := modelStaysRow.holds Tryd.pinned (OpenSpec.ofChange modelStaysSpec)

/-- ITS FALSE NEIGHBOUR: 'it returns false'. Refute it at one input. -/
def modelStaysWrong : ChangeSpec := { name := "modelStays", fn := fun _ => fun
  | [d] => { results := [.lit (.bool false)], args := [d] }
  | _ => none }
def ModelStaysWrongFalsely : Prop := modelStaysRow.holds Tryd.pinned (OpenSpec.ofChange modelStaysWrong)

/- THE SECOND FORM. 'bulk': how many values and letters a reading holds, each counted each time it is reached (what is shared counts as often as it is met; a slice's spare places count too). A statement '..UptoSaid' is the law's where the arguments, and the package variables that the reading takes, are together of bulk at most 1048576: NARROWER than '..Said'. Prove '..Said' where nothing that the law and all that it calls make is longer than what came in: it says more and counts as full. Else prove '..UptoSaid'. A law counts once. -/
mutual
def uptoBulk {H : Type} : DataW H → Nat
  | .lit (.string bytes) => bytes.length + 1
  | .lit _ => 1
  | .nil => 1
  | .ptr d => uptoBulk d + 1
  | .slice elems spare => uptoBulkAll elems + uptoBulkAll spare + 1
  | .agg parts => uptoBulkAll parts + 1
  | .iface _ d => uptoBulk d + 1
  | .map entries => uptoBulkEntries entries + 1
  | .held _ => 1
def uptoBulkAll {H : Type} : List (DataW H) → Nat
  | [] => 0
  | d :: r => uptoBulk d + uptoBulkAll r
def uptoBulkEntries {H : Type} : List (Lit × DataW H) → Nat
  | [] => 0
  | x :: r => uptoBulkEntry x + uptoBulkEntries r
def uptoBulkEntry {H : Type} : Lit × DataW H → Nat
  | (.string bytes, d) => bytes.length + uptoBulk d + 1
  | (_, d) => uptoBulk d + 1
 end
def uptoSmall : (H : Type) → List (DataW H) → Bool := fun _ ds => decide (uptoBulkAll ds ≤ 1048576)
def OpenSpec.upto (s : _root_.Go.ChangeSpec) : _root_.Go.OpenSpec := { _root_.Go.OpenSpec.ofChange s with cond := some uptoSmall }

/-- 'cenotaphlaw10.ReplayParts', WHERE WHAT IT READS IS OF BULK AT MOST 1048576: true; the input reads as it did. -/
def replayPartsUptoRow : OpenClaim := { program := "ytonknblidjpfeaadoor", sum := "53cd0b21a7c44dbbdd9b6098cc0a5d1befed0f38f9516da2f37b626f768f70ac", func := "cenotaph/cenotaphlaw10.ReplayParts", spec := "replayParts", inPlace := ["slices.overlaps[string]"], unfollowed := true, recurses := true, named := ["unicode/utf8.first", "unicode/utf8.acceptRanges"], apart := false, laid := [("unicode/utf8.acceptRanges", laid_unicode_utf8_acceptRanges), ("unicode/utf8.first", laid_unicode_utf8_first)], narrowed := true }
def ReplayPartsUptoSaid : Prop := replayPartsUptoRow.holds Tryd.pinned (OpenSpec.upto replayPartsSpec)

/-- 'cenotaphlaw10.ReplayTicks', WHERE WHAT IT READS IS OF BULK AT MOST 1048576: true; the input reads as it did. -/
def replayTicksUptoRow : OpenClaim := { program := "ytonknblidjpfeaadoor", sum := "53cd0b21a7c44dbbdd9b6098cc0a5d1befed0f38f9516da2f37b626f768f70ac", func := "cenotaph/cenotaphlaw10.ReplayTicks", spec := "replayTicks", inPlace := ["slices.overlaps[string]"], unfollowed := true, recurses := true, named := ["unicode/utf8.first", "unicode/utf8.acceptRanges"], apart := false, laid := [("unicode/utf8.acceptRanges", laid_unicode_utf8_acceptRanges), ("unicode/utf8.first", laid_unicode_utf8_first)], narrowed := true }
def ReplayTicksUptoSaid : Prop := replayTicksUptoRow.holds Tryd.pinned (OpenSpec.upto replayTicksSpec)

/-- 'cenotaphlaw10.ReplayLens', WHERE WHAT IT READS IS OF BULK AT MOST 1048576: true; the input reads as it did. -/
def replayLensUptoRow : OpenClaim := { program := "ytonknblidjpfeaadoor", sum := "53cd0b21a7c44dbbdd9b6098cc0a5d1befed0f38f9516da2f37b626f768f70ac", func := "cenotaph/cenotaphlaw10.ReplayLens", spec := "replayLens", inPlace := ["slices.overlaps[string]"], unfollowed := true, recurses := true, named := ["unicode/utf8.first", "unicode/utf8.acceptRanges"], apart := false, laid := [("unicode/utf8.acceptRanges", laid_unicode_utf8_acceptRanges), ("unicode/utf8.first", laid_unicode_utf8_first)], narrowed := true }
def ReplayLensUptoSaid : Prop := replayLensUptoRow.holds Tryd.pinned (OpenSpec.upto replayLensSpec)

/-- 'cenotaphlaw09.ModelApart', WHERE WHAT IT READS IS OF BULK AT MOST 1048576: true; the input reads as it did. -/
def modelApartUptoRow : OpenClaim := { program := "ytonknblidjpfeaadoor", sum := "53cd0b21a7c44dbbdd9b6098cc0a5d1befed0f38f9516da2f37b626f768f70ac", func := "cenotaph/cenotaphlaw09.ModelApart", spec := "modelApart", inPlace := ["slices.overlaps[string]", "math/bits.Add64"], unfollowed := true, recurses := true, named := ["unicode/utf8.first", "unicode/utf8.acceptRanges"], apart := false, laid := [("unicode/utf8.acceptRanges", laid_unicode_utf8_acceptRanges), ("unicode/utf8.first", laid_unicode_utf8_first)], narrowed := true }
def ModelApartUptoSaid : Prop := modelApartUptoRow.holds Tryd.pinned (OpenSpec.upto modelApartSpec)

/-- 'cenotaphlaw09.ModelLists', WHERE WHAT IT READS IS OF BULK AT MOST 1048576: true; the input reads as it did. -/
def modelListsUptoRow : OpenClaim := { program := "ytonknblidjpfeaadoor", sum := "53cd0b21a7c44dbbdd9b6098cc0a5d1befed0f38f9516da2f37b626f768f70ac", func := "cenotaph/cenotaphlaw09.ModelLists", spec := "modelLists", inPlace := ["slices.overlaps[string]", "math/bits.Add64"], unfollowed := true, recurses := true, named := ["unicode/utf8.first", "unicode/utf8.acceptRanges"], apart := false, laid := [("unicode/utf8.acceptRanges", laid_unicode_utf8_acceptRanges), ("unicode/utf8.first", laid_unicode_utf8_first)], narrowed := true }
def ModelListsUptoSaid : Prop := modelListsUptoRow.holds Tryd.pinned (OpenSpec.upto modelListsSpec)

/-- 'cenotaphlaw09.ModelNumbers', WHERE WHAT IT READS IS OF BULK AT MOST 1048576: true; the input reads as it did. -/
def modelNumbersUptoRow : OpenClaim := { program := "ytonknblidjpfeaadoor", sum := "53cd0b21a7c44dbbdd9b6098cc0a5d1befed0f38f9516da2f37b626f768f70ac", func := "cenotaph/cenotaphlaw09.ModelNumbers", spec := "modelNumbers", inPlace := ["slices.overlaps[string]", "math/bits.Add64"], unfollowed := true, recurses := true, named := ["unicode/utf8.first", "unicode/utf8.acceptRanges"], apart := false, laid := [("unicode/utf8.acceptRanges", laid_unicode_utf8_acceptRanges), ("unicode/utf8.first", laid_unicode_utf8_first)], narrowed := true }
def ModelNumbersUptoSaid : Prop := modelNumbersUptoRow.holds Tryd.pinned (OpenSpec.upto modelNumbersSpec)

/-- 'cenotaphlaw09.ModelSweeps', WHERE WHAT IT READS IS OF BULK AT MOST 1048576: true; the input reads as it did. -/
def modelSweepsUptoRow : OpenClaim := { program := "ytonknblidjpfeaadoor", sum := "53cd0b21a7c44dbbdd9b6098cc0a5d1befed0f38f9516da2f37b626f768f70ac", func := "cenotaph/cenotaphlaw09.ModelSweeps", spec := "modelSweeps", inPlace := ["slices.overlaps[string]", "math/bits.Add64"], unfollowed := true, recurses := true, named := ["unicode/utf8.first", "unicode/utf8.acceptRanges"], apart := false, laid := [("unicode/utf8.acceptRanges", laid_unicode_utf8_acceptRanges), ("unicode/utf8.first", laid_unicode_utf8_first)], narrowed := true }
def ModelSweepsUptoSaid : Prop := modelSweepsUptoRow.holds Tryd.pinned (OpenSpec.upto modelSweepsSpec)

/-- 'cenotaphlaw09.ModelKeeps', WHERE WHAT IT READS IS OF BULK AT MOST 1048576: true; the input reads as it did. -/
def modelKeepsUptoRow : OpenClaim := { program := "ytonknblidjpfeaadoor", sum := "53cd0b21a7c44dbbdd9b6098cc0a5d1befed0f38f9516da2f37b626f768f70ac", func := "cenotaph/cenotaphlaw09.ModelKeeps", spec := "modelKeeps", inPlace := ["slices.overlaps[string]", "math/bits.Add64"], unfollowed := true, recurses := true, named := ["unicode/utf8.first", "unicode/utf8.acceptRanges"], apart := false, laid := [("unicode/utf8.acceptRanges", laid_unicode_utf8_acceptRanges), ("unicode/utf8.first", laid_unicode_utf8_first)], narrowed := true }
def ModelKeepsUptoSaid : Prop := modelKeepsUptoRow.holds Tryd.pinned (OpenSpec.upto modelKeepsSpec)

/-- 'cenotaphlaw09.ModelStays', WHERE WHAT IT READS IS OF BULK AT MOST 1048576: true; the input reads as it did. -/
def modelStaysUptoRow : OpenClaim := { program := "ytonknblidjpfeaadoor", sum := "53cd0b21a7c44dbbdd9b6098cc0a5d1befed0f38f9516da2f37b626f768f70ac", func := "cenotaph/cenotaphlaw09.ModelStays", spec := "modelStays", inPlace := ["slices.overlaps[string]", "math/bits.Add64"], unfollowed := true, recurses := true, named := ["unicode/utf8.first", "unicode/utf8.acceptRanges"], apart := false, laid := [("unicode/utf8.acceptRanges", laid_unicode_utf8_acceptRanges), ("unicode/utf8.first", laid_unicode_utf8_first)], narrowed := true }
def ModelStaysUptoSaid : Prop := modelStaysUptoRow.holds Tryd.pinned (OpenSpec.upto modelStaysSpec)

end Rows
end Go.Proofs.YtonknblidjpfeaaDoor
