/- The law 'ReplayAll' answers true, whatever comes in, and leaves it as it was; its listed variables are tied to the program's text. -/
import Derived.Test.YtonknblidjpfeaaGreatDoorRa14
import Derived.Test.YtonknblidjpfeaaGreatDoorRows
import Derived.Test.YtonknblidjpfeaaGreatDoorCards
import Derived.Test.YtonknblidjpfeaaGreatDoorTie
set_option linter.all false
set_option linter.unusedSimpArgs false
set_option linter.unusedVariables false
set_option linter.unusedSectionVars false
namespace Go.Proofs.YtonknblidjpfeaaGreatDoor
open Go Go.AM Go.ChangeShapes Go.WideShapes Go.ChangeAt Go.WideMaps Go.WideElems Go.RowKit
theorem own : ownKnob Tryz.prog.godebug = none := by kernel_rfl
theorem gFirst : Tryz.prog.globalNamed "unicode/utf8.first" = some 0 := by kernel_rfl
theorem gAccept : Tryz.prog.globalNamed "unicode/utf8.acceptRanges" = some 1 := by kernel_rfl
theorem u8 : Go.Proofs.U8Extra Tryz.prog Tryz.lays197_ren := { n3 := by kernel_rfl, n4 := by kernel_rfl, y3 := by kernel_rfl, y4 := by kernel_rfl, c5 := by kernel_rfl, c119 := by kernel_rfl, c138 := by kernel_rfl }
theorem lays260 : Go.Proofs.Lays.n260 Tryz.prog Tryz.lays197_ren := { Tryz.lays197 with }
theorem accept_eq : (Rows.laid_unicode_utf8_acceptRanges : DataW Unit) = Go.Lib.acceptData := by kernel_rfl
noncomputable def start (os : Os) : World :=
  { World.doorLaid Tryz.prog 400 os with heap := (World.doorLaid Tryz.prog 400 os).heap.modify 0 fun | .cells _ t z => .cells (Lib.firstTab.map fun z => Value.int .u8 z).toArray t z | o => o }
theorem start_met (os : Os) (args : Array Value) : laidMetH Tryz.prog Rows.replayAllRow.laid ((start os).forCall (fun _ _ => 0) ⟨#[], args, []⟩).memory := by
  rw [MakeChecks.laidMetH_plain _ _ _ (by kernel_rfl)]
  exact laidMet_of_run' 8 (by kernel_rfl) (by kernel_rfl)
theorem tabs_of {W : World} (h : laidMetH Tryz.prog Rows.replayAllRow.laid W) : Go.AM.SZ.I W := by
  rw [MakeChecks.laidMetH_plain _ _ _ (by kernel_rfl)] at h
  obtain ⟨ps, hp, _⟩ := h
  refine Go.Proofs.utf8Tabs_of_reads (ρ := Tryz.lays197_ren) lays260 u8 ?_ ?_
  · have := Go.Lib.LaidVars_reads hp "unicode/utf8.first" Rows.laid_unicode_utf8_first (by simp [Rows.replayAllRow])
    rw [← Pinned.utf8First_eq]
    exact this
  · have := Go.Lib.LaidVars_reads hp "unicode/utf8.acceptRanges" Rows.laid_unicode_utf8_acceptRanges (by simp [Rows.replayAllRow])
    rw [← accept_eq]
    exact this
set_option maxRecDepth 100000 in
theorem lifted (os : Os) (started : os.Started) (H : Type) (enc : TypeId × Value → H) :
    ReturnsInHanded {} Tryz.checked os 5 .any (fun w args => (Rows.replayAllSpec.pre enc Tryz.prog Tryz.f5 [] false w args ∧ laidMetH Tryz.prog Rows.replayAllRow.laid w) ∧ sizedMet enc Tryz.prog Tryz.f5 (OpenSpec.ofChange Rows.replayAllSpec) false w args)
      (Rows.replayAllSpec.post enc Tryz.prog Tryz.f5 false true false false) := by
  refine returnsInHanded_of_change_and (C := Tryz.checked) (X := fun w _ => laidMetH Tryz.prog Rows.replayAllRow.laid w) (fun _ _ _ hh h => h.of_heap hh) own started (by kernel_rfl) Tryz.func5
    (ChangeSpec.witness_shaped (enc := enc) (C := Tryz.checked) (os := os) (X := fun w _ => laidMetH Tryz.prog Rows.replayAllRow.laid w) false (start os) #[.slice none 0 0, .slice none 0 0] 8 rfl (World.shaped_of_RefB (by kernel_rfl) (by kernel_rfl)) (by kernel_rfl) (by kernel_rfl) (by kernel_rfl) (start_met os _)) ?_
  intro W base args ds gs before hval hW _ _ hL _
  exact law_calls Go.AM.SZ.tyOk (Go.AM.SZ.F5.ok Tryz.f5 Go.AM.SZ.F5.fun_at) rfl (by kernel_rfl) (by kernel_rfl) (tb := 4) (by kernel_rfl) (by kernel_rfl)
    (fun ds h1 h2 => Go.AM.SZ.pure5 ds (by rw [Go.AM.SZ.F5.params] at h1; exact h1) h2) rfl
    (fun ds hl => by
      have hl' : ds.length = 2 := hl
      match ds, hl' with
      | [d0, d1], _ => exact ⟨rfl, rfl, rfl⟩) (tabs_of hL) hval hW
theorem row_holds : Rows.ReplayAllSaid :=
  OpenClaim.holds_of_wide 5 Tryz.f5 rfl rfl rfl rfl rfl rfl rfl ⟨rfl, rfl, rfl, rfl, rfl⟩ rfl rfl rfl rfl rfl (by kernel_rfl) Tryz.func5 (by kernel_rfl)
    (of_decide_eq_true (by kernel_rfl)) (by unfold Func.isWrapper; first | (rw [if_pos (by decide +kernel)]; kernel_rfl) | (rw [if_neg (by decide +kernel)]; exact ⟨rfl, rfl⟩))
    (fun os started H enc _ => lifted os started H enc)
theorem card_holds : Rows.ReplayAllCardSaid :=
  Claim7.holds_tied_plain_at .later [] [.data, .pinned] true (true, "e174efad136a579036c27b27f6198ccff14e0a407631737698c073d9e3815bf8") true
    row_holds (fun _ h => by cases h) (by kernel_rfl) (fun _ h => by cases h) replayAll_row_tie rfl ⟨rfl, rfl⟩ (by kernel_rfl) rfl
    (fun f fn hf hfn => by
      obtain rfl : f = 5 := Option.some.inj ((show Tryz.prog.funcNamed "cenotaph/cenotaphlaw10.ReplayAll" = some 5 by kernel_rfl).symm.trans hf) |>.symm
      obtain rfl : fn = Tryz.f5 := (Option.some.inj (Tryz.func5.symm.trans hfn)).symm
      exact ⟨by kernel_rfl, fun j t ht => by
        rw [Tryz.params5] at ht
        have ht' : t ∈ Tryz.f5.params.toList := by rw [Tryz.params5] ; exact List.mem_of_getElem? (by simpa using ht)
        have hall : Tryz.f5.params.toList.all (fun t => Tryz.prog.wantsStandIn t == false) = true := by kernel_rfl
        have := List.all_eq_true.1 hall t ht'
        exact (by simpa using this : Tryz.prog.wantsStandIn t = false)⟩)
    (by kernel_rfl)
#print axioms card_holds
end Go.Proofs.YtonknblidjpfeaaGreatDoor
