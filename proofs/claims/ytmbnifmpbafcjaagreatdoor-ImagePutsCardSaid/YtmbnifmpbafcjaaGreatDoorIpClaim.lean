/- The law 'ImagePuts' answers true, whatever comes in, and leaves it as it was; its listed variables are tied to the program's text. -/
import Derived.Test.YtmbnifmpbafcjaaGreatDoorIp14
import Derived.Test.YtmbnifmpbafcjaaGreatDoorRows
import Derived.Test.YtmbnifmpbafcjaaGreatDoorCards
import Derived.Test.YtmbnifmpbafcjaaGreatDoorTie
set_option linter.all false
set_option linter.unusedSimpArgs false
set_option linter.unusedVariables false
set_option linter.unusedSectionVars false
namespace Go.Proofs.YtmbnifmpbafcjaaGreatDoor
open Go Go.AM Go.ChangeShapes Go.WideShapes Go.ChangeAt Go.WideMaps Go.WideElems Go.RowKit
theorem own : ownKnob Tryz.prog.godebug = none := by kernel_rfl
theorem gFirst : Tryz.prog.globalNamed "unicode/utf8.first" = some 1 := by kernel_rfl
theorem gAccept : Tryz.prog.globalNamed "unicode/utf8.acceptRanges" = some 2 := by kernel_rfl
theorem u8 : Go.Proofs.U8Extra Tryz.prog Tryz.lays197_ren := { n3 := by kernel_rfl, n4 := by kernel_rfl, y3 := by kernel_rfl, y4 := by kernel_rfl, c5 := by kernel_rfl, c119 := by kernel_rfl, c138 := by kernel_rfl }
theorem lays260 : Go.Proofs.Lays.n260 Tryz.prog Tryz.lays197_ren := { Tryz.lays197 with }
theorem accept_eq : (Rows.laid_unicode_utf8_acceptRanges : DataW Unit) = Go.Lib.acceptData := by kernel_rfl
noncomputable def start (os : Os) : World :=
  { World.doorLaid Tryz.prog 400 os with heap := (World.doorLaid Tryz.prog 400 os).heap.modify 1 fun | .cells _ t z => .cells (Lib.firstTab.map fun z => Value.int .u8 z).toArray t z | o => o }
theorem start_met (os : Os) (args : Array Value) : laidMetH Tryz.prog Rows.imagePutsRow.laid ((start os).forCall (fun _ _ => 0) ⟨#[], args, []⟩).memory := by
  rw [MakeChecks.laidMetH_plain _ _ _ (by kernel_rfl)]
  exact laidMet_of_run' 8 (by kernel_rfl) (by kernel_rfl)
theorem tabs_of {W : World} (h : laidMetH Tryz.prog Rows.imagePutsRow.laid W) : Go.AM.SY.I W := by
  rw [MakeChecks.laidMetH_plain _ _ _ (by kernel_rfl)] at h
  obtain ⟨ps, hp, _⟩ := h
  refine Go.Proofs.utf8Tabs_of_reads (ρ := Tryz.lays197_ren) lays260 u8 ?_ ?_
  · have := Go.Lib.LaidVars_reads hp "unicode/utf8.first" Rows.laid_unicode_utf8_first (by simp [Rows.imagePutsRow])
    rw [← Pinned.utf8First_eq]
    exact this
  · have := Go.Lib.LaidVars_reads hp "unicode/utf8.acceptRanges" Rows.laid_unicode_utf8_acceptRanges (by simp [Rows.imagePutsRow])
    rw [← accept_eq]
    exact this
set_option maxRecDepth 100000 in
theorem lifted (os : Os) (started : os.Started) (H : Type) (enc : TypeId × Value → H) :
    ReturnsInHanded {} Tryz.checked os 3 .any (fun w args => (Rows.imagePutsSpec.pre enc Tryz.prog Tryz.f3 [] false w args ∧ laidMetH Tryz.prog Rows.imagePutsRow.laid w) ∧ sizedMet enc Tryz.prog Tryz.f3 (OpenSpec.ofChange Rows.imagePutsSpec) false w args)
      (Rows.imagePutsSpec.post enc Tryz.prog Tryz.f3 false true false false) := by
  refine returnsInHanded_of_change_and (C := Tryz.checked) (X := fun w _ => laidMetH Tryz.prog Rows.imagePutsRow.laid w) (fun _ _ _ hh h => h.of_heap hh) own started (by kernel_rfl) Tryz.func3
    (ChangeSpec.witness_shaped (enc := enc) (C := Tryz.checked) (os := os) (X := fun w _ => laidMetH Tryz.prog Rows.imagePutsRow.laid w) false (start os) #[.agg #[.slice none 0 0, .int .i64 0, .int .i64 0], .slice none 0 0, .int .i64 0] 8 rfl (World.shaped_of_RefB (by kernel_rfl) (by kernel_rfl)) (by kernel_rfl) (by kernel_rfl) (by kernel_rfl) (start_met os _)) ?_
  intro W base args ds gs before hval hW _ _ hL _
  exact law_calls Go.AM.SY.tyOk (Go.AM.SY.F3.ok Tryz.f3 Go.AM.SY.F3.fun_at) rfl (by kernel_rfl) (by kernel_rfl) (tb := 4) (by kernel_rfl) (by kernel_rfl)
    (fun ds h1 h2 => Go.AM.SY.pure3 ds (by rw [Go.AM.SY.F3.params] at h1; exact h1) h2) rfl
    (fun ds hl => by
      have hl' : ds.length = 3 := hl
      match ds, hl' with
      | [d0, d1, d2], _ => exact ⟨rfl, rfl, rfl⟩) (tabs_of hL) hval hW
noncomputable abbrev PP : Program := Tryz.pinned.checked.prog
noncomputable abbrev cc : OpenClaim := Rows.imagePutsRow
noncomputable abbrev ss : ChangeSpec := Rows.imagePutsSpec
noncomputable abbrev ff : Func := Tryz.f3
theorem j0 : (cc.wf (OpenSpec.ofChange ss)) = true := by kernel_rfl
theorem j1 : (laidOutB PP) = true := by kernel_rfl
theorem j2 : (mapsRowed PP) = true := by kernel_rfl
theorem j3 : (ff.params.all (PP.readableRec ·)) = true := by kernel_rfl
theorem j4 : (namedTie PP cc.named ss.vars) = true := by kernel_rfl
theorem j5 : (cc.stops == []) = true := by kernel_rfl
theorem j6 : (PP.stops == []) = true := by kernel_rfl
theorem j7 : (cc.knobs == []) = true := by kernel_rfl
theorem j8 : (PP.stopKnobs == []) = true := by kernel_rfl
theorem j9 : (cc.inPlace == PP.inPlace 3) = true := by kernel_rfl
theorem j10 : (cc.unfollowed == PP.unfollowed 3) = true := by kernel_rfl
theorem j11 : (cc.recurses == PP.recurses 3) = true := by kernel_rfl
theorem j12 : (cc.named == PP.varsNamed 3) = true := by kernel_rfl
theorem j13 : (cc.maps == (ff.params.toList ++ ss.plain.varTypes PP).any (PP.mapsRec ·)) = true := by kernel_rfl
theorem j14 : (cc.ifaces == (ff.params.toList ++ ss.plain.varTypes PP).any (PP.ifacesRec ·)) = true := by kernel_rfl
theorem j15 : (cc.mapsOut == PP.mapsAmong ff.resultTypes.toList) = true := by kernel_rfl
theorem j16 : (cc.loops == (ff.params.toList ++ ss.plain.varTypes PP).any (PP.loopsFrom ·)) = true := by kernel_rfl
theorem j17 : (cc.wideKeys == (ff.params.toList ++ ss.plain.varTypes PP ++ ff.resultTypes.toList).any (PP.wideKeysFrom ·)) = true := by kernel_rfl
theorem j18 : (ss.vars.all (PP.varReadable ·)) = true := by kernel_rfl
theorem j19 : (ff.resultTypes.all (fun t => PP.readableRec t && decide (t < PP.types.size))) = true := by kernel_rfl
theorem j20 : (cc.ifacesOut == ff.resultTypes.toList.any (PP.ifacesRec ·)) = true := by kernel_rfl
theorem j21 : (cc.loopsOut == ff.resultTypes.toList.any (PP.loopsFrom ·)) = true := by kernel_rfl
theorem j22 : (cc.plainKeys == PP.plainKeys) = true := by kernel_rfl
theorem j23 : (cc.shortTexts.isNone) = true := by kernel_rfl
theorem j24 : (PP.stopsHeard) = true := by kernel_rfl
theorem j25 : (PP.mayEnter) = true := by kernel_rfl
theorem j26 : (cc.lifted == PP.liftsFinal) = true := by kernel_rfl
theorem j27 : (PP.make == some cc.make) = true := by kernel_rfl
theorem j28 : (cc.kinds == (if cc.domain.isEmpty then [] else ff.params.toList.map fun t => match PP.underlying t with | some (.int k) => some k | _ => none)) = true := by kernel_rfl
theorem j29 : (cc.pinned == cc.pinnedBy) = true := by kernel_rfl
theorem j30 : (cc.veiled == (ff.params.toList ++ ss.plain.varTypes PP ++ ff.resultTypes.toList).any (PP.veiledRec ·)) = true := by kernel_rfl
theorem j31 : (cc.veiledFits PP ff.params.toList (ff.params.toList ++ ss.plain.varTypes PP ++ ff.resultTypes.toList)) = true := by kernel_rfl
set_option maxRecDepth 100000 in
theorem closed : joinedFacts PP 3 ff ss cc = true := by
  unfold joinedFacts
  simp only [Bool.and_eq_true]
  exact ⟨⟨⟨⟨⟨⟨⟨⟨⟨⟨⟨⟨⟨⟨⟨⟨⟨⟨⟨⟨⟨⟨⟨⟨⟨⟨⟨⟨⟨⟨⟨j0, j1⟩, j2⟩, j3⟩, j4⟩, j5⟩, j6⟩, j7⟩, j8⟩, j9⟩, j10⟩, j11⟩, j12⟩, j13⟩, j14⟩, j15⟩, j16⟩, j17⟩, j18⟩, j19⟩, j20⟩, j21⟩, j22⟩, j23⟩, j24⟩, j25⟩, j26⟩, j27⟩, j28⟩, j29⟩, j30⟩, j31⟩
theorem c0 : PP.funcNamed cc.func = some 3 := by kernel_rfl
theorem c1 : cc.wfByText (OpenSpec.ofChange ss) = true := by kernel_rfl
theorem c2 : PP.mainIs = some ((true, "b907d46d109c2a99469bf6c73894df72a6fc25335fddc36e67568e6c8c609936").1, (true, "b907d46d109c2a99469bf6c73894df72a6fc25335fddc36e67568e6c8c609936").2.toList) := by kernel_rfl
theorem c3 : true = PP.looks [] := by kernel_rfl
theorem c4 : Tryz.f3.params.toList.all (fun t => Tryz.prog.wantsStandIn t == false) = true := by kernel_rfl
theorem c5 : false = cc.goesBy PP := by kernel_rfl
theorem c6 : Tryz.prog.funcNamed "cenotaph/cenotaphlaw19.ImagePuts" = some 3 := by kernel_rfl
theorem c7 : decide (ff.isInstance PP cc.origin cc.targs) = true := by kernel_rfl
theorem c8 : ff.isWrapper PP cc.wrapper cc.mainSum := by unfold Func.isWrapper; first | (rw [if_pos (by decide +kernel)]; kernel_rfl) | (rw [if_neg (by decide +kernel)]; exact ⟨rfl, rfl⟩)
theorem row_holds : Rows.ImagePutsSaid :=
  OpenClaim.holds_of_wide 3 Tryz.f3 rfl rfl rfl rfl rfl rfl rfl ⟨rfl, rfl, rfl, rfl, rfl⟩ rfl rfl rfl rfl rfl c0 Tryz.func3 closed (of_decide_eq_true c7) c8
    (fun os started H enc _ => lifted os started H enc)
theorem card_holds : Rows.ImagePutsCardSaid :=
  Claim7.holds_tied_plain_at .later [] [.data, .pinned] true (true, "b907d46d109c2a99469bf6c73894df72a6fc25335fddc36e67568e6c8c609936") true
    row_holds (fun _ h => by cases h) c1 (fun _ h => by cases h) imagePuts_row_tie rfl ⟨rfl, rfl⟩ c2 rfl
    (fun f fn hf hfn => by
      obtain rfl : f = 3 := Option.some.inj (c6.symm.trans hf) |>.symm
      obtain rfl : fn = Tryz.f3 := (Option.some.inj (Tryz.func3.symm.trans hfn)).symm
      exact ⟨c3, fun j t ht => by
        rw [Tryz.params3] at ht
        have ht' : t ∈ Tryz.f3.params.toList := by rw [Tryz.params3] ; exact List.mem_of_getElem? (by simpa using ht)
        have := List.all_eq_true.1 c4 t ht'
        exact (by simpa using this : Tryz.prog.wantsStandIn t = false)⟩)
    c5
#print axioms card_holds
end Go.Proofs.YtmbnifmpbafcjaaGreatDoor
