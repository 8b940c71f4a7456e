/- Part 13 of the proof: the abstract machine, what the functions compute, and plain laws over that. -/
import Derived.Test.YtonknblidjpfeaaDoorAp12
set_option linter.all false
set_option linter.unusedSimpArgs false
set_option linter.unusedVariables false
set_option linter.unusedSectionVars false
namespace Go.AM.SD
open Go Go.AM
def Run.enc (r : Run) : D := .tup [r.st.enc, dl r.nnA (r.ans.map An.enc), dl r.nnE (r.evs.map Ev.enc)]
theorem do_evs_len {sum : ByteArray → List Int} {s : St} {o : Mo} (hs : StOk s) : (doM sum s o).evs.length ≤ 12 := by
  unfold doM
  repeat' split
  · simp [stay]
  · simp [stay]
  · unfold createM; repeat' split
    all_goals simp [stay]
  · unfold tickM; split <;> simp
  · have := hs.len
    simp only [sweepM, dueL, List.length_map]
    exact Nat.le_trans (List.length_filter_le _ _) this
  · unfold readM; repeat' split
    all_goals simp [stay]
  · unfold statM; repeat' split
    all_goals simp [stay]
  · simp [listM]
  · unfold changeM; repeat' split
    all_goals simp [stay]
theorem run_spec (s : St) (nn : Bool) (l : List Mo) (hs : StOk s) (hl : ∀ o ∈ l, MoOk o) (hlen : l.length ≤ 1000) : F19.s FUEL s.enc (dl nn (l.map Mo.enc)) = some (runM shaL s l).enc := by
  unfold F19.s
  refine goS_rule (fun t : F19.S4 => ∃ (k : Nat) (r : Run), t = ⟨0, k, 0, r.evs.length, dl nn (l.map Mo.enc), nI l.length, (k : Int), r.st.enc, false, [], 0, 0, r.nnA, r.ans.map An.enc, r.nnE, r.evs.map Ev.enc⟩ ∧ k ≤ l.length ∧ StOk r.st ∧ r.ans.length = k ∧ r.evs.length ≤ 12 * k ∧ runM shaL s l = runFrom shaL (l.drop k) r) (fun t => l.length - t.i7.toNat) (fun o => o = some (runM shaL s l).enc) ?_ _ _ ⟨0, run0 s, by simp [run0], by omega, hs, rfl, by simp [run0], by simp [runM]⟩ (by simp [FUEL]; omega)
  rintro _ rec ⟨k, r, rfl, hk, hr, hra, hre, hrun⟩ hrec
  simp only [F19.st4]
  by_cases h1 : k < l.length
  · have hadd : ad .i64 (k : Int) 1 = ((k + 1 : Nat) : Int) := by rw [ad64 (by omega) (by omega)]; rfl
    have ho := hl _ (List.getElem_mem h1)
    have hev := do_evs_len (sum := shaL) (o := l[k]) hr
    refine ct (by simp; omega) (ct (by simp; omega) ?_)
    simp only [elems_slice, Int.toNat_natCast, ix_map h1]
    refine bdS (do_specM r.st l[k] hr ho) ?_
    rw [List.drop_eq_getElem_cons h1, runFrom] at hrun
    refine ct (by simp; omega) (ct (by show mx (r.evs.length + ((doM shaL r.st l[k]).evs.map Ev.enc).length) = true; simp; omega) ?_)
    rw [hadd]
    refine hrec _ ⟨k + 1, _, ?_, by omega, do_ok hr ho, by simp [hra], by simp; omega, hrun⟩ ?_
    · rw [F19.S4.mk.injEq]
      refine ⟨rfl, rfl, rfl, ?_, rfl, rfl, rfl, rfl, rfl, rfl, rfl, rfl, ?_, ?_, ?_, ?_⟩
      · show r.evs.length + ((doM shaL r.st l[k]).evs.map Ev.enc).length = (r.evs ++ (doM shaL r.st l[k]).evs).length
        simp
      · simp
      · show ap (((r.ans.map An.enc).drop 0).take k) [(doM shaL r.st l[k]).an.enc] = (r.ans ++ [(doM shaL r.st l[k]).an]).map An.enc
        rw [List.drop_zero, List.take_of_length_le (by simp [hra]), ap, List.map_append]
        rfl
      · show (r.nnE || !((doM shaL r.st l[k]).evs.map Ev.enc).isEmpty) = (r.nnE || !(doM shaL r.st l[k]).evs.isEmpty)
        simp
      · show ap (((r.evs.map Ev.enc).drop 0).take r.evs.length) ((doM shaL r.st l[k]).evs.map Ev.enc) = (r.evs ++ (doM shaL r.st l[k]).evs).map Ev.enc
        rw [List.drop_zero, List.take_of_length_le (by simp), ap, List.map_append]
    · dsimp only; omega
  · refine cf (by simp; omega) ?_
    rw [List.drop_of_length_le (by omega), runFrom] at hrun
    rw [hrun]
    show some (D.tup [r.st.enc, dl r.nnA (((r.ans.map An.enc).drop 0).take k), dl r.nnE (((r.evs.map Ev.enc).drop 0).take r.evs.length)]) = _
    rw [List.drop_zero, List.drop_zero, List.take_of_length_le (by simp [hra]), List.take_of_length_le (by simp)]
    rfl
def oneM (o : Mo) : Bool := decide (o.text.size ≤ 700) && decide (o.name.size ≤ 200)
def fewM (l : List Mo) : Bool := decide (l.length ≤ 30) && (l.take 31).all oneM
theorem few_specM (nn : Bool) (l : List Mo) : F18.s FUEL (dl nn (l.map Mo.enc)) = some (db (fewM l)) := by
  unfold F18.s
  refine goS_rule (fun t : F18.S2 => ∃ k : Nat, t = ⟨dl nn (l.map Mo.enc), (k : Int)⟩ ∧ k ≤ 31 ∧ ∀ i (h : i < l.length), i < k → oneM l[i] = true) (fun t => 31 - t.i2.toNat) (fun o => o = some (db (fewM l))) ?_ _ _ ⟨0, rfl, by omega, by omega⟩ (by simp [FUEL])
  rintro _ rec ⟨k, rfl, hk, hs⟩ hrec
  have hall : (∀ i (h : i < l.length), i ≤ 30 → oneM l[i] = true) → (l.take 31).all oneM = true := by
    intro h
    simp only [List.all_eq_true]
    intro e he
    obtain ⟨i, hi, rfl⟩ := List.getElem_of_mem he
    simp at hi ⊢
    exact h i (by omega) (by omega)
  have hno : ∀ (h1 : k < l.length), k ≤ 30 → oneM l[k] = false → fewM l = false := by
    intro h1 h2 h3
    have : (l.take 31).all oneM = false := by
      rw [List.all_eq_false]
      refine ⟨l[k], ?_, by simp [h3]⟩
      rw [List.mem_take_iff_getElem]
      exact ⟨k, by omega, rfl⟩
    simp [fewM, this]
  simp only [F18.st2]
  by_cases h1 : k < l.length
  · refine ct (by simp; omega) ?_
    by_cases h2 : k ≤ 30
    · refine ct (by simp; omega) (ct (by simp; omega) ?_)
      simp only [elems_slice, Int.toNat_natCast, ix_map h1]
      have ht : ((l[k].enc.at 2).s) = l[k].text := rfl
      have hn : ((l[k].enc.at 1).s) = l[k].name := rfl
      rw [ht, hn]
      by_cases h3 : l[k].text.size ≤ 700
      · refine cf (by simp; omega) (ct (by simp; omega) ?_)
        by_cases h4 : l[k].name.size ≤ 200
        · refine cf (by simp; omega) ?_
          have hadd : ad .i64 (k : Int) 1 = ((k + 1 : Nat) : Int) := by rw [ad64 (by omega) (by omega)]; rfl
          rw [hadd]
          refine hrec _ ⟨k + 1, rfl, by omega, ?_⟩ (by simp; omega)
          intro i hi hik
          by_cases hik' : i = k
          · subst hik'; simp [oneM, h3, h4]
          · exact hs i hi (by omega)
        · refine ct (by simp; omega) ?_
          rw [hno h1 h2 (by simp [oneM, h4])]
      · refine ct (by simp; omega) ?_
        rw [hno h1 h2 (by simp [oneM, h3])]
    · refine cf (by simp; omega) ?_
      have : ¬ l.length ≤ 30 := by omega
      simp [fewM, this, leI]
      try omega
  · refine cf (by simp; omega) ?_
    have := hall (fun i hi hi2 => hs i hi (by omega))
    simp [fewM, this, leI]
    omega
structure Mo.ok (o : Mo) : Prop where
  kind : i64ok o.kind
  time : i64ok o.time
  a : i64ok o.a
  b : i64ok o.b
theorem mo_of {d : D} (h : D.has ty d (.struct [34, 9, 9, 3, 3, 3])) (hw : D.wf d) : ∃ o : Mo, d = o.enc ∧ o.ok := by
  obtain ⟨ds, rfl, hh⟩ := hass_struct h
  clear h
  have hf : List.map ty [34, 9, 9, 3, 3, 3] = [.int .i64, .str, .str, .int .i64, .int .i64, .int .i64] := rfl
  rw [hf] at hh
  obtain ⟨d0, _, rfl, h0, hh⟩ := hassC hh
  obtain ⟨d1, _, rfl, h1, hh⟩ := hassC hh
  obtain ⟨d2, _, rfl, h2, hh⟩ := hassC hh
  obtain ⟨d3, _, rfl, h3, hh⟩ := hassC hh
  obtain ⟨d4, _, rfl, h4, hh⟩ := hassC hh
  obtain ⟨d5, _, rfl, h5, hh⟩ := hassC hh
  obtain rfl := hass0 hh
  obtain ⟨x0, rfl⟩ := has_int h0
  obtain ⟨x1, rfl⟩ := has_str h1
  obtain ⟨x2, rfl⟩ := has_str h2
  obtain ⟨x3, rfl⟩ := has_int h3
  obtain ⟨x4, rfl⟩ := has_int h4
  obtain ⟨x5, rfl⟩ := has_int h5
  rw [D.wf] at hw
  simp only [D.wfs] at hw
  exact ⟨⟨x0, x1, x2, x3, x4, x5⟩, rfl, wf_i64 hw.1, wf_i64 hw.2.2.2.1, wf_i64 hw.2.2.2.2.1, wf_i64 hw.2.2.2.2.2.1⟩
theorem mos_of {d : D} (h : D.has ty d (.slice 47)) (hw : D.wf d) : ∃ (nn : Bool) (l : List Mo), d = dl nn (l.map Mo.enc) ∧ ∀ o ∈ l, o.ok := by
  obtain ⟨nn, ds, rfl, h1, h2⟩ := hass_slice h
  simp only [D.wf] at hw
  obtain ⟨l, rfl, _, hl⟩ := hass_rep (f := Mo.enc) (Q := fun o : Mo => o.ok) (fun d h1 h2 => mo_of h1 h2) h1 (by first | exact hw | exact hw.1 | exact hw.2)
  exact ⟨nn, l, rfl, hl⟩
theorem few_okM {l : List Mo} (h : fewM l = true) (hs : ∀ o ∈ l, o.ok) : l.length ≤ 30 ∧ ∀ o ∈ l, MoOk o := by
  unfold fewM at h
  simp only [Bool.and_eq_true, decide_eq_true_eq, List.all_eq_true] at h
  refine ⟨h.1, fun o ho => ?_⟩
  have h2 := h.2 o (by rw [List.take_of_length_le (by omega)]; exact ho)
  simp only [oneM, Bool.and_eq_true, decide_eq_true_eq] at h2
  exact ⟨(hs o ho).kind, (hs o ho).time, (hs o ho).a, (hs o ho).b, by omega, by omega⟩
end Go.AM.SD
namespace Go.AM.SD
open Go Go.AM
theorem within_specM (n h : Int) : F45.s FUEL n h = some (db (decide (0 ≤ n) && decide (n ≤ h))) := by
  unfold F45.s
  by_cases h0 : 0 ≤ n
  · exact ct (by simpa using h0) (by simp [h0, leI])
  · exact cf (by simp; omega) (by simp [h0])
theorem valid_file {f : Fl} {last : Int} (hf : FlOk f last) (hl : last ≤ 1099511627776) : F46.s FUEL f.enc = some (db true) := by
  have i0 := hf.id0
  have i1 := hf.id1
  have u0 := hf.until0
  have u1 := hf.until1
  have hns := hf.nsz
  have hda := hf.data
  have hho := hf.hold
  unfold F46.s
  refine bdS (numbered_spec f.id) (cf ?_ (bdS (name_spec f.name (by omega)) (cf ?_ (cf ?_ (cf ?_ (cf ?_ (cf ?_ ?_)))))))
  · show (!(decide (1 ≤ f.id) && decide (f.id ≤ 1099511627776))) = false
    simp; omega
  · show (!nameB f.name) = false
    simp [hf.name]
  · show gtI (nI f.data.size) 600 = false
    simp; omega
  · show ltI f.until_ 0 = false
    simp; omega
  · show gtI f.until_ 1099511627776 = false
    simp; omega
  · show gtI (nI (f.holds.map dS).length) 4 = false
    simp; omega
  have h3 : (f.enc.at 3).b = f.sealed := rfl
  have h4 : (f.enc.at 4).i = f.until_ := rfl
  have h5 : f.enc.at 5 = dl f.nn (f.holds.map dS) := rfl
  rw [h3, h4, h5]
  by_cases hse : f.sealed = true
  · refine cf (by simp [hse]) ?_
    refine goS_rule (fun t : F46.S6 => ∃ k : Nat, t = ⟨dl f.nn (f.holds.map dS), nI (f.holds.map dS).length, (k : Int), f.enc⟩ ∧ k ≤ f.holds.length) (fun t => f.holds.length - t.i5.toNat) (fun o => o = some (db true)) ?_ _ _ ⟨0, rfl, by omega⟩ (by simp [FUEL]; omega)
    rintro _ rec ⟨k, rfl, hk⟩ hrec
    simp only [F46.st6]
    by_cases h1 : k < f.holds.length
    · have hadd : ad .i64 (k : Int) 1 = ((k + 1 : Nat) : Int) := by rw [ad64 (by omega) (by omega)]; rfl
      have hkz := hf.hsz _ (List.getElem_mem h1)
      refine ct (by simp; omega) (ct (by simp; omega) ?_)
      simp only [elems_slice, Int.toNat_natCast, ix_map h1]
      refine bdS (name_spec f.holds[k] (by omega)) (cf (by show (!nameB f.holds[k]) = false; simp [hf.hname _ (List.getElem_mem h1)]) ?_)
      have fin : rec ⟨dl f.nn (f.holds.map dS), nI (f.holds.map dS).length, ad .i64 (k : Int) 1, f.enc⟩ = some (db true) := by
        rw [hadd]
        exact hrec _ ⟨k + 1, rfl, by omega⟩ (by simp; omega)
      by_cases h0 : 0 < k
      · have hsub : sb .i64 (k : Int) 1 = ((k - 1 : Nat) : Int) := by rw [sb64 (by omega) (by omega)]; omega
        have hk1 : k - 1 < f.holds.length := by omega
        have hkz1 := hf.hsz _ (List.getElem_mem hk1)
        refine ct (by simp; omega) (ct (by rw [h5, hsub]; simp; omega) ?_)
        rw [h5, hsub]
        simp only [elems_slice, Int.toNat_natCast, ix_map hk1]
        have hlt : lessB f.holds[k - 1] f.holds[k] = true := (List.pairwise_iff_getElem.1 hf.rise) (k - 1) k hk1 h1 (by omega)
        refine bdS (less_spec _ _ (by show f.holds[k-1].size ≤ _; omega) (by show f.holds[k].size ≤ _; omega)) (cf (by rw [show (dS f.holds[k-1]).s = f.holds[k-1] from rfl, show (dS f.holds[k]).s = f.holds[k] from rfl, hlt]; rfl) fin)
      · exact cf (by simp; omega) fin
    · exact cf (by simp; omega) rfl
  · obtain ⟨e1, e2⟩ := hf.opn (by simpa using hse)
    refine ct (by simpa using hse) (ct (by simp [e1]) ?_)
    rw [e2]; rfl
theorem valid_state {s : St} (hs : StOk s) : F27.s FUEL s.enc = some (db true) := by
  have hl := hs.len
  have l0 := hs.last0
  have l1 := hs.last1
  have f0 := hs.floor0
  have f1 := hs.floor1
  unfold F27.s
  have h0 : s.enc.at 0 = dl s.nn (s.files.map Fl.enc) := rfl
  have hla : (s.enc.at 1).i = s.last := rfl
  have hfl : (s.enc.at 2).i = s.floor := rfl
  rw [h0, hla, hfl]
  refine cf (by simp; omega) (bdS (within_specM _ _) (cf (by simp; omega) (bdS (within_specM _ _) (cf (by simp; omega) ?_))))
  refine goS_rule (fun t : F27.S4 => ∃ k : Nat, t = ⟨dl s.nn (s.files.map Fl.enc), nI s.files.length, (k : Int), s.enc⟩ ∧ k ≤ s.files.length) (fun t => s.files.length - t.i5.toNat) (fun o => o = some (db true)) ?_ _ _ ⟨0, by simp, by omega⟩ (by simp [FUEL]; omega)
  rintro _ rec ⟨k, rfl, hk⟩ hrec
  simp only [F27.st4]
  by_cases h1 : k < s.files.length
  · have hadd : ad .i64 (k : Int) 1 = ((k + 1 : Nat) : Int) := by rw [ad64 (by omega) (by omega)]; rfl
    have hf := hs.files _ (List.getElem_mem h1)
    have i1 := hf.id1
    have hns := hf.nsz
    refine ct (by simp; omega) (ct (by simp; omega) ?_)
    simp only [elems_slice, Int.toNat_natCast, ix_map h1]
    refine bdS (valid_file hf hs.last1) (cf rfl (cf (by show gtI s.files[k].id s.last = false; simp; omega) ?_))
    have hfind : findI (fun f : Fl => decide (f.name = s.files[k].name)) s.files = (k : Int) := by
      refine findI_some (findIdx_some_of h1 (fun i hi hik => ?_) (by simp))
      have := (List.pairwise_iff_getElem.1 hs.names) i k hi h1 hik
      simpa using this
    refine bdS (find_specM s s.files[k].name (by omega)) (cf (by rw [hfind]; simp) ?_)
    have fin : rec ⟨dl s.nn (s.files.map Fl.enc), nI s.files.length, ad .i64 (k : Int) 1, s.enc⟩ = some (db true) := by
      rw [hadd]
      exact hrec _ ⟨k + 1, rfl, by omega⟩ (by simp; omega)
    by_cases hk0 : 0 < k
    · have hsub : sb .i64 (k : Int) 1 = ((k - 1 : Nat) : Int) := by rw [sb64 (by omega) (by omega)]; omega
      have hk1 : k - 1 < s.files.length := by omega
      have hlt := (List.pairwise_iff_getElem.1 hs.rise) (k - 1) k hk1 h1 (by omega)
      refine ct (by simp; omega) (ct (by rw [h0, hsub]; simp; omega) (cf ?_ fin))
      rw [h0, hsub]
      simp only [elems_slice, Int.toNat_natCast, ix_map hk1]
      show geI s.files[k - 1].id s.files[k].id = false
      simp; omega
    · exact cf (by simp; omega) fin
  · exact cf (by simp; omega) rfl
theorem same_state {s : St} (hs : StOk s) : F25.s FUEL s.enc s.enc = some (db true) := by
  have hl := hs.len
  unfold F25.s
  have h0 : s.enc.at 0 = dl s.nn (s.files.map Fl.enc) := rfl
  rw [h0]
  refine ct (by simp) (ct (by simp) (cf (by simp) ?_))
  refine goS_rule (fun t : F25.S43_4 => ∃ k : Nat, t = ⟨dl s.nn (s.files.map Fl.enc), dl s.nn (s.files.map Fl.enc), nI s.files.length, (k : Int), s.enc, s.enc⟩ ∧ k ≤ s.files.length) (fun t => s.files.length - t.i4.toNat) (fun o => o = some (db true)) ?_ _ _ ⟨0, by simp, by omega⟩ (by simp [FUEL]; omega)
  rintro _ rec ⟨k, rfl, hk⟩ hrec
  simp only [F25.st43_4]
  by_cases h1 : k < s.files.length
  · have hadd : ad .i64 (k : Int) 1 = ((k + 1 : Nat) : Int) := by rw [ad64 (by omega) (by omega)]; rfl
    have hf := (hs.files _ (List.getElem_mem h1)).hold
    refine ct (by simp; omega) (ct (by simp; omega) (ct (by simp; omega) ?_))
    simp only [elems_slice, Int.toNat_natCast, ix_map h1]
    refine bdS (same_file _ (by omega)) (cf rfl ?_)
    rw [hadd]
    exact hrec _ ⟨k + 1, rfl, by omega⟩ (by simp; omega)
  · exact cf (by simp; omega) rfl
theorem texts_self (nn : Bool) (l : List ByteArray) (hl : l.length ≤ 1048576) : F40.s FUEL (dl nn (l.map dS)) (dl nn (l.map dS)) = some (db true) := by
  unfold F40.s
  refine cf (by simp) ?_
  refine goS_rule (fun t : F40.S4 => ∃ k : Nat, t = ⟨dl nn (l.map dS), dl nn (l.map dS), (k : Int)⟩ ∧ k ≤ l.length) (fun t => l.length - t.i3.toNat) (fun o => o = some (db true)) ?_ _ _ ⟨0, rfl, by omega⟩ (by simp [FUEL]; omega)
  rintro _ rec ⟨k, rfl, hk⟩ hrec
  simp only [F40.st4]
  by_cases h1 : k < l.length
  · refine ct (by simp; omega) (ct (by simp; omega) (ct (by simp; omega) (cf (by simp) ?_)))
    have hadd : ad .i64 (k : Int) 1 = ((k + 1 : Nat) : Int) := by rw [ad64 (by omega) (by omega)]; rfl
    rw [hadd]
    exact hrec _ ⟨k + 1, rfl, by omega⟩ (by simp; omega)
  · exact cf (by simp; omega) rfl
theorem same_ref (f : Fl) (hl : f.holds.length ≤ 1048576) : F22.s FUEL f.enc f.enc = some (db true) := by
  unfold F22.s
  refine ct (by simp) (ct (by simp) (ct (by simp) ?_))
  have h3 : f.enc.at 3 = db f.sealed := rfl
  have h5 : f.enc.at 5 = dl f.nn (f.holds.map dS) := rfl
  rw [h3, h5]
  refine bdS (x := db true) (by rw [show eqDepth = 15 + 1 from rfl, eqv_bool]; simp) (ct rfl (ct (by simp) (bdS (texts_self _ _ hl) rfl)))
def exOps : List Mo := [⟨0, bs [97], bs [], 0, 0, 0⟩, ⟨1, bs [97], bs [97, 98], 0, 0, 0⟩, ⟨2, bs [97], bs [], 5, 0, 0⟩, ⟨7, bs [], bs [], 5, 0, 0⟩]
def exF : Fl := ⟨1, bs [97], bs [97, 98], true, 5, false, []⟩
def exS : St := ⟨true, [exF], 1, 5⟩
set_option maxRecDepth 100000 in
theorem ex_run (sum : ByteArray → List Int) : runM sum emptyS exOps = ⟨exS, true, [⟨0, 1, bs [], zeroF, false, []⟩, ⟨0, 2, bs [], zeroF, false, []⟩, ⟨0, 2, bs [], zeroF, false, []⟩, ⟨0, 5, bs [], zeroF, false, []⟩], true,
    [⟨0, 1, bs [97], 0, 0, zeros⟩, ⟨1, 1, bs [], 0, 2, zeros⟩, ⟨2, 1, bs [], 5, 2, sum (bs [97, 98])⟩, ⟨7, 0, bs [], 5, 0, zeros⟩]⟩ := by kernel_rfl
set_option maxRecDepth 100000 in
theorem ex_read (sum : ByteArray → List Int) : doM sum exS ⟨9, bs [97], bs [], 0, 0, 2⟩ = ⟨exS, ⟨0, 0, bs [97, 98], zeroF, false, []⟩, false, []⟩ := by kernel_rfl
set_option maxRecDepth 100000 in
theorem ex_sweep (sum : ByteArray → List Int) : doM sum exS ⟨8, bs [], bs [], 0, 0, 0⟩ = ⟨⟨true, [], 1, 5⟩, ⟨0, 1, bs [], zeroF, false, []⟩, true, [delEv 1]⟩ := by kernel_rfl
theorem ex_ok : ∀ o ∈ exOps, MoOk o := by
  intro o ho
  simp only [exOps, List.mem_cons, List.not_mem_nil, or_false] at ho
  rcases ho with rfl | rfl | rfl | rfl <;> exact ⟨by simp [i64ok], by simp [i64ok], by simp [i64ok], by simp [i64ok], by show (bs _).size ≤ 1000; simp [bs, ByteArray.size], by show (bs _).size ≤ 1000; simp [bs, ByteArray.size]⟩
theorem exS_ok : StOk exS := by
  have := runFrom_ok (sum := fun _ => zeros) (l := exOps) (r := run0 emptyS) emptyS_ok ex_ok
  have h := ex_run (fun _ => zeros)
  unfold runM at h
  rw [h] at this
  exact this
theorem works_M : F17.s FUEL = some (db true) := by
  unfold F17.s
  refine bdS (x := (runM shaL emptyS exOps).enc) (run_spec emptyS true exOps emptyS_ok ex_ok (by simp [exOps])) ?_
  rw [ex_run]
  refine cf rfl (cf rfl (bdS (find_specM exS (bs [97]) (by simp [exS])) (cf rfl ?_)))
  have ho1 : MoOk ⟨9, bs [97], bs [], 0, 0, 2⟩ := ⟨by simp [i64ok], by simp [i64ok], by simp [i64ok], by simp [i64ok], by show (bs _).size ≤ 1000; simp [bs, ByteArray.size], by show (bs _).size ≤ 1000; simp [bs, ByteArray.size]⟩
  have ho2 : MoOk ⟨8, bs [], bs [], 0, 0, 0⟩ := ⟨by simp [i64ok], by simp [i64ok], by simp [i64ok], by simp [i64ok], by show (bs _).size ≤ 1000; simp [bs, ByteArray.size], by show (bs _).size ≤ 1000; simp [bs, ByteArray.size]⟩
  refine bdS (do_specM exS _ exS_ok ho1) (bdS (do_specM exS _ exS_ok ho2) ?_)
  rw [ex_read, ex_sweep]
  refine ct rfl (ct rfl (ct rfl (ct rfl (ct rfl (ct rfl (ct (by simp [Res.enc, An.enc]) (ct rfl (ct rfl (ct rfl ?_)))))))))
  refine bdS (x := db true) ?_ (ct rfl (ct rfl (ct rfl (ct rfl (bdS (valid_state exS_ok) (ct rfl (bdS (same_state exS_ok) (ct rfl (bdS (x := db false) ?_ rfl)))))))))
  · show (match D.eqv ty eqDepth (delEv 1).enc (delEv 1).enc (.struct [34, 3, 9, 3, 3, 36]) with | some z => some (D.bool z) | none => none) = _
    rw [eqv_ev rfl rfl, evEq_self]
  · rfl
end Go.AM.SD
namespace Go.AM.SD
open Go Go.AM
theorem findI_at {s : St} {n : ByteArray} {f : Fl} (h : atName s n = some f) : ∃ i, ∃ hi : i < s.files.length, findI (fun f : Fl => decide (f.name = n)) s.files = (i : Int) ∧ s.files[i] = f := by
  obtain ⟨i, hi, h1, h2, _⟩ := at_findM h
  exact ⟨i, hi, findI_some h1, h2⟩
theorem findI_no {s : St} {n : ByteArray} (h : atName s n = none) : findI (fun f : Fl => decide (f.name = n)) s.files = -1 := findI_none (findM_no.2 h)
theorem apart_law (nn : Bool) (l : List Mo) (hs : ∀ o ∈ l, o.ok) (o : Mo) (ho : o.ok) (n : ByteArray) : F6.s FUEL (dl nn (l.map Mo.enc)) o.enc n = some (db true) := by
  unfold F6.s
  refine bdS works_M (cf rfl (bdS (few_specM nn l) ?_))
  cases hf : fewM l with
  | false => exact cf rfl rfl
  | true =>
    obtain ⟨hlen, hl⟩ := few_okM hf hs
    refine ct rfl (bdS (few_specM true [o]) ?_)
    cases hf1 : fewM [o] with
    | false => exact ct rfl rfl
    | true =>
      obtain ⟨_, hl1⟩ := few_okM hf1 (by simpa using ho)
      have hoo := hl1 o (by simp)
      refine cf rfl ?_
      by_cases hn : o.name = n
      · exact ct (by show eqS o.name n = true; simpa using hn) rfl
      refine cf (by show eqS o.name n = false; simpa using hn) ?_
      by_cases h8 : o.kind = 8
      · exact ct (by show eqI o.kind 8 = true; simpa using h8) rfl
      refine cf (by show eqI o.kind 8 = false; simpa using h8) ?_
      by_cases h7 : o.kind = 7
      · exact ct (by show eqI o.kind 7 = true; simpa using h7) rfl
      refine cf (by show eqI o.kind 7 = false; simpa using h7) (bdS (run_spec emptyS nn l emptyS_ok hl (by omega)) ?_)
      have hS : StOk (runM shaL emptyS l).st := runFrom_ok emptyS_ok hl
      generalize hR : runM shaL emptyS l = R at hS
      have hT := do_ok (sum := shaL) hS hoo
      have hap := apart (sum := shaL) hS hoo hn h8
      refine bdS (do_specM R.st o hS hoo) (bdS (find_specM R.st n (by have := hS.len; omega)) (bdS (find_specM (doM shaL R.st o).st n (by have := hT.len; omega)) ?_))
      cases ha : atName R.st n with
      | none =>
        rw [ha] at hap
        rw [findI_no ha, findI_no hap]
        exact ct (by simp) (ct rfl (by simp [eqI]))
      | some f =>
        rw [ha] at hap
        obtain ⟨i, hi, e1, e2⟩ := findI_at ha
        obtain ⟨j, hj, e3, e4⟩ := findI_at hap
        rw [e1, e3]
        have hfo := (hS.files f (by rw [← e2]; exact List.getElem_mem hi)).hold
        refine cf (by simp) (cf (by simp) (bdBS rfl (ct rfl (ct (by show inb (i : Int) (R.st.files.map Fl.enc).length = true; simp; omega) (ct (by show inb (j : Int) ((doM shaL R.st o).st.files.map Fl.enc).length = true; simp; omega) ?_)))))
        have g1 : ix (R.st.files.map Fl.enc) ((di (i : Int)).i).toNat = f.enc := by
          show ix (R.st.files.map Fl.enc) (i : Int).toNat = _
          rw [Int.toNat_natCast, ix_map hi, e2]
        have g2 : ix ((doM shaL R.st o).st.files.map Fl.enc) ((di (j : Int)).i).toNat = f.enc := by
          show ix ((doM shaL R.st o).st.files.map Fl.enc) (j : Int).toNat = _
          rw [Int.toNat_natCast, ix_map hj, e4]
        show (bd (F22.s FUEL (ix (R.st.files.map Fl.enc) ((di (i : Int)).i).toNat) (ix ((doM shaL R.st o).st.files.map Fl.enc) ((di (j : Int)).i).toNat)) fun r9 => some r9) = _
        rw [g1, g2]
        exact bdS (same_ref f (by omega)) rfl
theorem pure6 : ∀ ds, D.hass ty ds [(.slice 47), (.struct [34, 9, 9, 3, 3, 3]), .str] → D.wfs ds → F6.c.run ds = some (.bool true) := by
  intro ds h hw
  obtain ⟨d0, _, rfl, h0, h⟩ := hassC h
  obtain ⟨d1, _, rfl, h1, h⟩ := hassC h
  obtain ⟨d2, _, rfl, h2, h⟩ := hassC h
  obtain rfl := hass0 h
  simp only [D.wfs] at hw
  obtain ⟨nn, l, rfl, hl⟩ := mos_of h0 hw.1
  obtain ⟨o, rfl, ho⟩ := mo_of h1 hw.2.1
  obtain ⟨n, rfl⟩ := has_str h2
  exact apart_law nn l hl o ho n
end Go.AM.SD
