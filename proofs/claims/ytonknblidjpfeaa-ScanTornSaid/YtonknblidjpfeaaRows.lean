/-
  No cell of these rows narrows 'for every input' (looked for: loops, veiled, ifaces, maps, wideKeys, modest, calm, conditions, laid).
  DERIVED. THE GIVEN ROWS OF THIS SEAT. 5 by the template 'for every input the law returns true; each argument reads behind the call as it read before'; 0 by the template 'total and deterministic' (their statements: YtonknblidjpfeaaTotals.lean).
  GIVEN WITH THE SEED: the statements are not yours to turn. If you find one false, say at which input.
  Laid BY PROGRAM, IN A SANDBOX (cutbox-rows.mjs): the forced cells as the released guide's own fill.sh prints them over the translation b3db047d9100f3d3… (all of the seat's roots in one cut). By AI agents, Wed Nov 11 2026. No macro, syntax, notation, axiom, sorry.
-/
import Derived.Test.YtonknblidjpfeaaChecked
import GoSem.Claim
import GoSem.ClaimJoined
import GoSem.ClaimMapViews
import Derived.JoinedTies
import Derived.KernelRfl
namespace Go.Proofs.Ytonknblidjpfeaa
/- THE CELL 'sum', in the pinned program and in every row, IS THE sha256 OF THE DUMP (.gsa) THAT YtonknblidjpfeaaProg.lean LOADS. Nothing in Lean hashes anything: it is a label: what it is worth is what the hold of that sum in a sandbox is worth. -/
noncomputable def Try.pinned : Pinned := { name := "ytonknblidjpfeaa", sum := "b3db047d9100f3d3c735b994f2b21ff98650a7a1799f2b202cdebbc22d243026", checked := Try.checked }
namespace Rows
def none {H : Type} : Left H := { results := [], args := [] }

/-- 'cenotaphlaw16.ScanHolds': WHATEVER THE INPUT: true; the input reads as it did. -/
def scanHoldsSpec : ChangeSpec := { name := "scanHolds", fn := fun _ => fun
  | [d1, d2, d3] => { results := [.lit (.bool true)], args := [d1, d2, d3] }
  | _ => none }
def scanHoldsRow : OpenClaim := { program := "ytonknblidjpfeaa", sum := "b3db047d9100f3d3c735b994f2b21ff98650a7a1799f2b202cdebbc22d243026", func := "cenotaph/cenotaphlaw16.ScanHolds", spec := "scanHolds", inPlace := ["internal/abi.NoEscape"], unfollowed := true, recurses := true, plainKeys := false, apart := false }
def ScanHoldsSaid : Prop := scanHoldsRow.holds Try.pinned (OpenSpec.ofChange scanHoldsSpec)

/-- ITS FALSE NEIGHBOUR: 'it returns false'. Refute it at one input. -/
def scanHoldsWrong : ChangeSpec := { name := "scanHolds", fn := fun _ => fun
  | [d1, d2, d3] => { results := [.lit (.bool false)], args := [d1, d2, d3] }
  | _ => none }
def ScanHoldsWrongFalsely : Prop := scanHoldsRow.holds Try.pinned (OpenSpec.ofChange scanHoldsWrong)

/-- 'cenotaphlaw16.ScanOwners': WHATEVER THE INPUT: true; the input reads as it did. -/
def scanOwnersSpec : ChangeSpec := { name := "scanOwners", fn := fun _ => fun
  | [d1, d2, d3] => { results := [.lit (.bool true)], args := [d1, d2, d3] }
  | _ => none }
def scanOwnersRow : OpenClaim := { program := "ytonknblidjpfeaa", sum := "b3db047d9100f3d3c735b994f2b21ff98650a7a1799f2b202cdebbc22d243026", func := "cenotaph/cenotaphlaw16.ScanOwners", spec := "scanOwners", inPlace := ["internal/abi.NoEscape"], unfollowed := true, recurses := true, plainKeys := false, apart := false }
def ScanOwnersSaid : Prop := scanOwnersRow.holds Try.pinned (OpenSpec.ofChange scanOwnersSpec)

/-- ITS FALSE NEIGHBOUR: 'it returns false'. Refute it at one input. -/
def scanOwnersWrong : ChangeSpec := { name := "scanOwners", fn := fun _ => fun
  | [d1, d2, d3] => { results := [.lit (.bool false)], args := [d1, d2, d3] }
  | _ => none }
def ScanOwnersWrongFalsely : Prop := scanOwnersRow.holds Try.pinned (OpenSpec.ofChange scanOwnersWrong)

/-- 'cenotaphlaw16.ScanLive': WHATEVER THE INPUT: true; the input reads as it did. -/
def scanLiveSpec : ChangeSpec := { name := "scanLive", fn := fun _ => fun
  | [d] => { results := [.lit (.bool true)], args := [d] }
  | _ => none }
def scanLiveRow : OpenClaim := { program := "ytonknblidjpfeaa", sum := "b3db047d9100f3d3c735b994f2b21ff98650a7a1799f2b202cdebbc22d243026", func := "cenotaph/cenotaphlaw16.ScanLive", spec := "scanLive", inPlace := ["internal/abi.NoEscape"], unfollowed := true, recurses := true, plainKeys := false, apart := false }
def ScanLiveSaid : Prop := scanLiveRow.holds Try.pinned (OpenSpec.ofChange scanLiveSpec)

/-- ITS FALSE NEIGHBOUR: 'it returns false'. Refute it at one input. -/
def scanLiveWrong : ChangeSpec := { name := "scanLive", fn := fun _ => fun
  | [d] => { results := [.lit (.bool false)], args := [d] }
  | _ => none }
def ScanLiveWrongFalsely : Prop := scanLiveRow.holds Try.pinned (OpenSpec.ofChange scanLiveWrong)

/-- 'cenotaphlaw16.ScanTorn': WHATEVER THE INPUT: true; the input reads as it did. -/
def scanTornSpec : ChangeSpec := { name := "scanTorn", fn := fun _ => fun
  | [d1, d2, d3, d4, d5] => { results := [.lit (.bool true)], args := [d1, d2, d3, d4, d5] }
  | _ => none }
def scanTornRow : OpenClaim := { program := "ytonknblidjpfeaa", sum := "b3db047d9100f3d3c735b994f2b21ff98650a7a1799f2b202cdebbc22d243026", func := "cenotaph/cenotaphlaw16.ScanTorn", spec := "scanTorn", inPlace := ["internal/abi.NoEscape"], unfollowed := true, recurses := true, plainKeys := false, apart := false }
def ScanTornSaid : Prop := scanTornRow.holds Try.pinned (OpenSpec.ofChange scanTornSpec)

/-- ITS FALSE NEIGHBOUR: 'it returns false'. Refute it at one input. -/
def scanTornWrong : ChangeSpec := { name := "scanTorn", fn := fun _ => fun
  | [d1, d2, d3, d4, d5] => { results := [.lit (.bool false)], args := [d1, d2, d3, d4, d5] }
  | _ => none }
def ScanTornWrongFalsely : Prop := scanTornRow.holds Try.pinned (OpenSpec.ofChange scanTornWrong)

/-- 'cenotaphlaw16.ScanMore': WHATEVER THE INPUT: true; the input reads as it did. -/
def scanMoreSpec : ChangeSpec := { name := "scanMore", fn := fun _ => fun
  | [d1, d2] => { results := [.lit (.bool true)], args := [d1, d2] }
  | _ => none }
def scanMoreRow : OpenClaim := { program := "ytonknblidjpfeaa", sum := "b3db047d9100f3d3c735b994f2b21ff98650a7a1799f2b202cdebbc22d243026", func := "cenotaph/cenotaphlaw16.ScanMore", spec := "scanMore", inPlace := ["internal/abi.NoEscape"], unfollowed := true, recurses := true, plainKeys := false, apart := false }
def ScanMoreSaid : Prop := scanMoreRow.holds Try.pinned (OpenSpec.ofChange scanMoreSpec)

/-- ITS FALSE NEIGHBOUR: 'it returns false'. Refute it at one input. -/
def scanMoreWrong : ChangeSpec := { name := "scanMore", fn := fun _ => fun
  | [d1, d2] => { results := [.lit (.bool false)], args := [d1, d2] }
  | _ => none }
def ScanMoreWrongFalsely : Prop := scanMoreRow.holds Try.pinned (OpenSpec.ofChange scanMoreWrong)

/- THE SECOND FORM. 'bulk': how many values and letters a reading holds, each counted each time it is reached (what is shared counts as often as it is met; a slice's spare places count too). A statement '..UptoSaid' is the law's where the arguments, and the package variables that the reading takes, are together of bulk at most 1048576: NARROWER than '..Said'. Prove '..Said' where nothing that the law and all that it calls make is longer than what came in: it says more and counts as full. Else prove '..UptoSaid'. A law counts once. -/
mutual
def uptoBulk {H : Type} : DataW H → Nat
  | .lit (.string bytes) => bytes.length + 1
  | .lit _ => 1
  | .nil => 1
  | .ptr d => uptoBulk d + 1
  | .slice elems spare => uptoBulkAll elems + uptoBulkAll spare + 1
  | .agg parts => uptoBulkAll parts + 1
  | .iface _ d => uptoBulk d + 1
  | .map entries => uptoBulkEntries entries + 1
  | .held _ => 1
def uptoBulkAll {H : Type} : List (DataW H) → Nat
  | [] => 0
  | d :: r => uptoBulk d + uptoBulkAll r
def uptoBulkEntries {H : Type} : List (Lit × DataW H) → Nat
  | [] => 0
  | x :: r => uptoBulkEntry x + uptoBulkEntries r
def uptoBulkEntry {H : Type} : Lit × DataW H → Nat
  | (.string bytes, d) => bytes.length + uptoBulk d + 1
  | (_, d) => uptoBulk d + 1
 end
def uptoSmall : (H : Type) → List (DataW H) → Bool := fun _ ds => decide (uptoBulkAll ds ≤ 1048576)
def OpenSpec.upto (s : _root_.Go.ChangeSpec) : _root_.Go.OpenSpec := { _root_.Go.OpenSpec.ofChange s with cond := some uptoSmall }

/-- 'cenotaphlaw16.ScanHolds', WHERE WHAT IT READS IS OF BULK AT MOST 1048576: true; the input reads as it did. -/
def scanHoldsUptoRow : OpenClaim := { program := "ytonknblidjpfeaa", sum := "b3db047d9100f3d3c735b994f2b21ff98650a7a1799f2b202cdebbc22d243026", func := "cenotaph/cenotaphlaw16.ScanHolds", spec := "scanHolds", inPlace := ["internal/abi.NoEscape"], unfollowed := true, recurses := true, plainKeys := false, apart := false, narrowed := true }
def ScanHoldsUptoSaid : Prop := scanHoldsUptoRow.holds Try.pinned (OpenSpec.upto scanHoldsSpec)

/-- 'cenotaphlaw16.ScanOwners', WHERE WHAT IT READS IS OF BULK AT MOST 1048576: true; the input reads as it did. -/
def scanOwnersUptoRow : OpenClaim := { program := "ytonknblidjpfeaa", sum := "b3db047d9100f3d3c735b994f2b21ff98650a7a1799f2b202cdebbc22d243026", func := "cenotaph/cenotaphlaw16.ScanOwners", spec := "scanOwners", inPlace := ["internal/abi.NoEscape"], unfollowed := true, recurses := true, plainKeys := false, apart := false, narrowed := true }
def ScanOwnersUptoSaid : Prop := scanOwnersUptoRow.holds Try.pinned (OpenSpec.upto scanOwnersSpec)

/-- 'cenotaphlaw16.ScanLive', WHERE WHAT IT READS IS OF BULK AT MOST 1048576: true; the input reads as it did. -/
def scanLiveUptoRow : OpenClaim := { program := "ytonknblidjpfeaa", sum := "b3db047d9100f3d3c735b994f2b21ff98650a7a1799f2b202cdebbc22d243026", func := "cenotaph/cenotaphlaw16.ScanLive", spec := "scanLive", inPlace := ["internal/abi.NoEscape"], unfollowed := true, recurses := true, plainKeys := false, apart := false, narrowed := true }
def ScanLiveUptoSaid : Prop := scanLiveUptoRow.holds Try.pinned (OpenSpec.upto scanLiveSpec)

/-- 'cenotaphlaw16.ScanTorn', WHERE WHAT IT READS IS OF BULK AT MOST 1048576: true; the input reads as it did. -/
def scanTornUptoRow : OpenClaim := { program := "ytonknblidjpfeaa", sum := "b3db047d9100f3d3c735b994f2b21ff98650a7a1799f2b202cdebbc22d243026", func := "cenotaph/cenotaphlaw16.ScanTorn", spec := "scanTorn", inPlace := ["internal/abi.NoEscape"], unfollowed := true, recurses := true, plainKeys := false, apart := false, narrowed := true }
def ScanTornUptoSaid : Prop := scanTornUptoRow.holds Try.pinned (OpenSpec.upto scanTornSpec)

/-- 'cenotaphlaw16.ScanMore', WHERE WHAT IT READS IS OF BULK AT MOST 1048576: true; the input reads as it did. -/
def scanMoreUptoRow : OpenClaim := { program := "ytonknblidjpfeaa", sum := "b3db047d9100f3d3c735b994f2b21ff98650a7a1799f2b202cdebbc22d243026", func := "cenotaph/cenotaphlaw16.ScanMore", spec := "scanMore", inPlace := ["internal/abi.NoEscape"], unfollowed := true, recurses := true, plainKeys := false, apart := false, narrowed := true }
def ScanMoreUptoSaid : Prop := scanMoreUptoRow.holds Try.pinned (OpenSpec.upto scanMoreSpec)

end Rows
end Go.Proofs.Ytonknblidjpfeaa
