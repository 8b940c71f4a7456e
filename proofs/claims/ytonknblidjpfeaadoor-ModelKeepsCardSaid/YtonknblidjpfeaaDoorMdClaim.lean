/- The law 'ModelKeeps' answers true, whatever comes in, and leaves it as it was; its listed variables are tied to the program's text. -/
import Derived.Test.YtonknblidjpfeaaDoorMd13
import Derived.Test.YtonknblidjpfeaaDoorRows
import Derived.Test.YtonknblidjpfeaaDoorCards
import Derived.Test.YtonknblidjpfeaaDoorTie
set_option linter.all false
set_option linter.unusedSimpArgs false
set_option linter.unusedVariables false
set_option linter.unusedSectionVars false
namespace Go.Proofs.YtonknblidjpfeaaDoor
open Go Go.AM Go.ChangeShapes Go.WideShapes Go.ChangeAt Go.WideMaps Go.WideElems Go.RowKit
theorem own : ownKnob Tryd.prog.godebug = none := by kernel_rfl
theorem gFirst : Tryd.prog.globalNamed "unicode/utf8.first" = some 0 := by kernel_rfl
theorem gAccept : Tryd.prog.globalNamed "unicode/utf8.acceptRanges" = some 1 := by kernel_rfl
theorem u8 : Go.Proofs.U8Extra Tryd.prog Tryd.lays197_ren := { n3 := by kernel_rfl, n4 := by kernel_rfl, y3 := by kernel_rfl, y4 := by kernel_rfl, c5 := by kernel_rfl, c119 := by kernel_rfl, c138 := by kernel_rfl }
theorem lays260 : Go.Proofs.Lays.n260 Tryd.prog Tryd.lays197_ren := { Tryd.lays197 with }
theorem accept_eq : (Rows.laid_unicode_utf8_acceptRanges : DataW Unit) = Go.Lib.acceptData := by kernel_rfl
noncomputable def start (os : Os) : World :=
  { World.doorLaid Tryd.prog 400 os with heap := (World.doorLaid Tryd.prog 400 os).heap.modify 0 fun | .cells _ t z => .cells (Lib.firstTab.map fun z => Value.int .u8 z).toArray t z | o => o }
theorem start_met (os : Os) (args : Array Value) : laidMetH Tryd.prog Rows.modelKeepsRow.laid ((start os).forCall (fun _ _ => 0) ⟨#[], args, []⟩).memory := by
  rw [MakeChecks.laidMetH_plain _ _ _ (by kernel_rfl)]
  exact laidMet_of_run' 8 (by kernel_rfl) (by kernel_rfl)
theorem tabs_of {W : World} (h : laidMetH Tryd.prog Rows.modelKeepsRow.laid W) : Go.AM.SD.I W := by
  rw [MakeChecks.laidMetH_plain _ _ _ (by kernel_rfl)] at h
  obtain ⟨ps, hp, _⟩ := h
  refine Go.Proofs.utf8Tabs_of_reads (ρ := Tryd.lays197_ren) lays260 u8 ?_ ?_
  · have := Go.Lib.LaidVars_reads hp "unicode/utf8.first" Rows.laid_unicode_utf8_first (by simp [Rows.modelKeepsRow])
    rw [← Pinned.utf8First_eq]
    exact this
  · have := Go.Lib.LaidVars_reads hp "unicode/utf8.acceptRanges" Rows.laid_unicode_utf8_acceptRanges (by simp [Rows.modelKeepsRow])
    rw [← accept_eq]
    exact this
set_option maxRecDepth 100000 in
theorem lifted (os : Os) (started : os.Started) (H : Type) (enc : TypeId × Value → H) :
    ReturnsInHanded {} Tryd.checked os 10 .any (fun w args => (Rows.modelKeepsSpec.pre enc Tryd.prog Tryd.f10 [] false w args ∧ laidMetH Tryd.prog Rows.modelKeepsRow.laid w) ∧ sizedMet enc Tryd.prog Tryd.f10 (OpenSpec.ofChange Rows.modelKeepsSpec) false w args)
      (Rows.modelKeepsSpec.post enc Tryd.prog Tryd.f10 false true false false) := by
  refine returnsInHanded_of_change_and (C := Tryd.checked) (X := fun w _ => laidMetH Tryd.prog Rows.modelKeepsRow.laid w) (fun _ _ _ hh h => h.of_heap hh) own started (by kernel_rfl) Tryd.func10
    (ChangeSpec.witness_shaped (enc := enc) (C := Tryd.checked) (os := os) (X := fun w _ => laidMetH Tryd.prog Rows.modelKeepsRow.laid w) false (start os) #[.slice none 0 0, .string ⟨#[]⟩, .string ⟨#[]⟩, .int .i64 0, .slice none 0 0] 8 rfl (World.shaped_of_RefB (by kernel_rfl) (by kernel_rfl)) (by kernel_rfl) (by kernel_rfl) (by kernel_rfl) (start_met os _)) ?_
  intro W base args ds gs before hval hW _ _ hL _
  exact law_calls Go.AM.SD.tyOk (Go.AM.SD.F10.ok Tryd.f10 Go.AM.SD.F10.fun_at) rfl (by kernel_rfl) (by kernel_rfl) (tb := 4) (by kernel_rfl) (by kernel_rfl)
    (fun ds h1 h2 => Go.AM.SD.pure10 ds (by rw [Go.AM.SD.F10.params] at h1; exact h1) h2) rfl
    (fun ds hl => by
      have hl' : ds.length = 5 := hl
      match ds, hl' with
      | [d0, d1, d2, d3, d4], _ => exact ⟨rfl, rfl, rfl⟩) (tabs_of hL) hval hW
theorem row_holds : Rows.ModelKeepsSaid :=
  OpenClaim.holds_of_wide 10 Tryd.f10 rfl rfl rfl rfl rfl rfl rfl ⟨rfl, rfl, rfl, rfl, rfl⟩ rfl rfl rfl rfl rfl (by kernel_rfl) Tryd.func10 (by kernel_rfl)
    (of_decide_eq_true (by kernel_rfl)) (by unfold Func.isWrapper; first | (rw [if_pos (by decide +kernel)]; kernel_rfl) | (rw [if_neg (by decide +kernel)]; exact ⟨rfl, rfl⟩))
    (fun os started H enc _ => lifted os started H enc)
theorem card_holds : Rows.ModelKeepsCardSaid :=
  Claim7.holds_tied_plain_at .later [] [.data, .pinned] true (true, "0f4bc04f60daa770412d218e1d3c18fb83b941651b5d1bde017ecbf1c2b51b73") true
    row_holds (fun _ h => by cases h) (by kernel_rfl) (fun _ h => by cases h) modelKeeps_row_tie rfl ⟨rfl, rfl⟩ (by kernel_rfl) rfl
    (fun f fn hf hfn => by
      obtain rfl : f = 10 := Option.some.inj ((show Tryd.prog.funcNamed "cenotaph/cenotaphlaw09.ModelKeeps" = some 10 by kernel_rfl).symm.trans hf) |>.symm
      obtain rfl : fn = Tryd.f10 := (Option.some.inj (Tryd.func10.symm.trans hfn)).symm
      exact ⟨by kernel_rfl, fun j t ht => by
        rw [Tryd.params10] at ht
        have ht' : t ∈ Tryd.f10.params.toList := by rw [Tryd.params10] ; exact List.mem_of_getElem? (by simpa using ht)
        have hall : Tryd.f10.params.toList.all (fun t => Tryd.prog.wantsStandIn t == false) = true := by kernel_rfl
        have := List.all_eq_true.1 hall t ht'
        exact (by simpa using this : Tryd.prog.wantsStandIn t = false)⟩)
    (by kernel_rfl)
#print axioms card_holds
end Go.Proofs.YtonknblidjpfeaaDoor
