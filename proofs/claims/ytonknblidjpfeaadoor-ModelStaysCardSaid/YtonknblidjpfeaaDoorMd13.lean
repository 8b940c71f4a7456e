/- Part 13 of the proof: the abstract machine, what the functions compute, and plain laws over that. -/
import Derived.Test.YtonknblidjpfeaaDoorMd12
set_option linter.all false
set_option linter.unusedSimpArgs false
set_option linter.unusedVariables false
set_option linter.unusedSectionVars false
namespace Go.AM.SD
open Go Go.AM
theorem within_specM (n h : Int) : F45.s FUEL n h = some (db (decide (0 ≤ n) && decide (n ≤ h))) := by
  unfold F45.s
  by_cases h0 : 0 ≤ n
  · exact ct (by simpa using h0) (by simp [h0, leI])
  · exact cf (by simp; omega) (by simp [h0])
theorem valid_file {f : Fl} {last : Int} (hf : FlOk f last) (hl : last ≤ 1099511627776) : F46.s FUEL f.enc = some (db true) := by
  have i0 := hf.id0
  have i1 := hf.id1
  have u0 := hf.until0
  have u1 := hf.until1
  have hns := hf.nsz
  have hda := hf.data
  have hho := hf.hold
  unfold F46.s
  refine bdS (numbered_spec f.id) (cf ?_ (bdS (name_spec f.name (by omega)) (cf ?_ (cf ?_ (cf ?_ (cf ?_ (cf ?_ ?_)))))))
  · show (!(decide (1 ≤ f.id) && decide (f.id ≤ 1099511627776))) = false
    simp; omega
  · show (!nameB f.name) = false
    simp [hf.name]
  · show gtI (nI f.data.size) 600 = false
    simp; omega
  · show ltI f.until_ 0 = false
    simp; omega
  · show gtI f.until_ 1099511627776 = false
    simp; omega
  · show gtI (nI (f.holds.map dS).length) 4 = false
    simp; omega
  have h3 : (f.enc.at 3).b = f.sealed := rfl
  have h4 : (f.enc.at 4).i = f.until_ := rfl
  have h5 : f.enc.at 5 = dl f.nn (f.holds.map dS) := rfl
  rw [h3, h4, h5]
  by_cases hse : f.sealed = true
  · refine cf (by simp [hse]) ?_
    refine goS_rule (fun t : F46.S6 => ∃ k : Nat, t = ⟨dl f.nn (f.holds.map dS), nI (f.holds.map dS).length, (k : Int), f.enc⟩ ∧ k ≤ f.holds.length) (fun t => f.holds.length - t.i5.toNat) (fun o => o = some (db true)) ?_ _ _ ⟨0, rfl, by omega⟩ (by simp [FUEL]; omega)
    rintro _ rec ⟨k, rfl, hk⟩ hrec
    simp only [F46.st6]
    by_cases h1 : k < f.holds.length
    · have hadd : ad .i64 (k : Int) 1 = ((k + 1 : Nat) : Int) := by rw [ad64 (by omega) (by omega)]; rfl
      have hkz := hf.hsz _ (List.getElem_mem h1)
      refine ct (by simp; omega) (ct (by simp; omega) ?_)
      simp only [elems_slice, Int.toNat_natCast, ix_map h1]
      refine bdS (name_spec f.holds[k] (by omega)) (cf (by show (!nameB f.holds[k]) = false; simp [hf.hname _ (List.getElem_mem h1)]) ?_)
      have fin : rec ⟨dl f.nn (f.holds.map dS), nI (f.holds.map dS).length, ad .i64 (k : Int) 1, f.enc⟩ = some (db true) := by
        rw [hadd]
        exact hrec _ ⟨k + 1, rfl, by omega⟩ (by simp; omega)
      by_cases h0 : 0 < k
      · have hsub : sb .i64 (k : Int) 1 = ((k - 1 : Nat) : Int) := by rw [sb64 (by omega) (by omega)]; omega
        have hk1 : k - 1 < f.holds.length := by omega
        have hkz1 := hf.hsz _ (List.getElem_mem hk1)
        refine ct (by simp; omega) (ct (by rw [h5, hsub]; simp; omega) ?_)
        rw [h5, hsub]
        simp only [elems_slice, Int.toNat_natCast, ix_map hk1]
        have hlt : lessB f.holds[k - 1] f.holds[k] = true := (List.pairwise_iff_getElem.1 hf.rise) (k - 1) k hk1 h1 (by omega)
        refine bdS (less_spec _ _ (by show f.holds[k-1].size ≤ _; omega) (by show f.holds[k].size ≤ _; omega)) (cf (by rw [show (dS f.holds[k-1]).s = f.holds[k-1] from rfl, show (dS f.holds[k]).s = f.holds[k] from rfl, hlt]; rfl) fin)
      · exact cf (by simp; omega) fin
    · exact cf (by simp; omega) rfl
  · obtain ⟨e1, e2⟩ := hf.opn (by simpa using hse)
    refine ct (by simpa using hse) (ct (by simp [e1]) ?_)
    rw [e2]; rfl
theorem valid_state {s : St} (hs : StOk s) : F27.s FUEL s.enc = some (db true) := by
  have hl := hs.len
  have l0 := hs.last0
  have l1 := hs.last1
  have f0 := hs.floor0
  have f1 := hs.floor1
  unfold F27.s
  have h0 : s.enc.at 0 = dl s.nn (s.files.map Fl.enc) := rfl
  have hla : (s.enc.at 1).i = s.last := rfl
  have hfl : (s.enc.at 2).i = s.floor := rfl
  rw [h0, hla, hfl]
  refine cf (by simp; omega) (bdS (within_specM _ _) (cf (by simp; omega) (bdS (within_specM _ _) (cf (by simp; omega) ?_))))
  refine goS_rule (fun t : F27.S4 => ∃ k : Nat, t = ⟨dl s.nn (s.files.map Fl.enc), nI s.files.length, (k : Int), s.enc⟩ ∧ k ≤ s.files.length) (fun t => s.files.length - t.i5.toNat) (fun o => o = some (db true)) ?_ _ _ ⟨0, by simp, by omega⟩ (by simp [FUEL]; omega)
  rintro _ rec ⟨k, rfl, hk⟩ hrec
  simp only [F27.st4]
  by_cases h1 : k < s.files.length
  · have hadd : ad .i64 (k : Int) 1 = ((k + 1 : Nat) : Int) := by rw [ad64 (by omega) (by omega)]; rfl
    have hf := hs.files _ (List.getElem_mem h1)
    have i1 := hf.id1
    have hns := hf.nsz
    refine ct (by simp; omega) (ct (by simp; omega) ?_)
    simp only [elems_slice, Int.toNat_natCast, ix_map h1]
    refine bdS (valid_file hf hs.last1) (cf rfl (cf (by show gtI s.files[k].id s.last = false; simp; omega) ?_))
    have hfind : findI (fun f : Fl => decide (f.name = s.files[k].name)) s.files = (k : Int) := by
      refine findI_some (findIdx_some_of h1 (fun i hi hik => ?_) (by simp))
      have := (List.pairwise_iff_getElem.1 hs.names) i k hi h1 hik
      simpa using this
    refine bdS (find_specM s s.files[k].name (by omega)) (cf (by rw [hfind]; simp) ?_)
    have fin : rec ⟨dl s.nn (s.files.map Fl.enc), nI s.files.length, ad .i64 (k : Int) 1, s.enc⟩ = some (db true) := by
      rw [hadd]
      exact hrec _ ⟨k + 1, rfl, by omega⟩ (by simp; omega)
    by_cases hk0 : 0 < k
    · have hsub : sb .i64 (k : Int) 1 = ((k - 1 : Nat) : Int) := by rw [sb64 (by omega) (by omega)]; omega
      have hk1 : k - 1 < s.files.length := by omega
      have hlt := (List.pairwise_iff_getElem.1 hs.rise) (k - 1) k hk1 h1 (by omega)
      refine ct (by simp; omega) (ct (by rw [h0, hsub]; simp; omega) (cf ?_ fin))
      rw [h0, hsub]
      simp only [elems_slice, Int.toNat_natCast, ix_map hk1]
      show geI s.files[k - 1].id s.files[k].id = false
      simp; omega
    · exact cf (by simp; omega) fin
  · exact cf (by simp; omega) rfl
theorem same_state {s : St} (hs : StOk s) : F25.s FUEL s.enc s.enc = some (db true) := by
  have hl := hs.len
  unfold F25.s
  have h0 : s.enc.at 0 = dl s.nn (s.files.map Fl.enc) := rfl
  rw [h0]
  refine ct (by simp) (ct (by simp) (cf (by simp) ?_))
  refine goS_rule (fun t : F25.S43_4 => ∃ k : Nat, t = ⟨dl s.nn (s.files.map Fl.enc), dl s.nn (s.files.map Fl.enc), nI s.files.length, (k : Int), s.enc, s.enc⟩ ∧ k ≤ s.files.length) (fun t => s.files.length - t.i4.toNat) (fun o => o = some (db true)) ?_ _ _ ⟨0, by simp, by omega⟩ (by simp [FUEL]; omega)
  rintro _ rec ⟨k, rfl, hk⟩ hrec
  simp only [F25.st43_4]
  by_cases h1 : k < s.files.length
  · have hadd : ad .i64 (k : Int) 1 = ((k + 1 : Nat) : Int) := by rw [ad64 (by omega) (by omega)]; rfl
    have hf := (hs.files _ (List.getElem_mem h1)).hold
    refine ct (by simp; omega) (ct (by simp; omega) (ct (by simp; omega) ?_))
    simp only [elems_slice, Int.toNat_natCast, ix_map h1]
    refine bdS (same_file _ (by omega)) (cf rfl ?_)
    rw [hadd]
    exact hrec _ ⟨k + 1, rfl, by omega⟩ (by simp; omega)
  · exact cf (by simp; omega) rfl
theorem texts_self (nn : Bool) (l : List ByteArray) (hl : l.length ≤ 1048576) : F40.s FUEL (dl nn (l.map dS)) (dl nn (l.map dS)) = some (db true) := by
  unfold F40.s
  refine cf (by simp) ?_
  refine goS_rule (fun t : F40.S4 => ∃ k : Nat, t = ⟨dl nn (l.map dS), dl nn (l.map dS), (k : Int)⟩ ∧ k ≤ l.length) (fun t => l.length - t.i3.toNat) (fun o => o = some (db true)) ?_ _ _ ⟨0, rfl, by omega⟩ (by simp [FUEL]; omega)
  rintro _ rec ⟨k, rfl, hk⟩ hrec
  simp only [F40.st4]
  by_cases h1 : k < l.length
  · refine ct (by simp; omega) (ct (by simp; omega) (ct (by simp; omega) (cf (by simp) ?_)))
    have hadd : ad .i64 (k : Int) 1 = ((k + 1 : Nat) : Int) := by rw [ad64 (by omega) (by omega)]; rfl
    rw [hadd]
    exact hrec _ ⟨k + 1, rfl, by omega⟩ (by simp; omega)
  · exact cf (by simp; omega) rfl
theorem same_ref (f : Fl) (hl : f.holds.length ≤ 1048576) : F22.s FUEL f.enc f.enc = some (db true) := by
  unfold F22.s
  refine ct (by simp) (ct (by simp) (ct (by simp) ?_))
  have h3 : f.enc.at 3 = db f.sealed := rfl
  have h5 : f.enc.at 5 = dl f.nn (f.holds.map dS) := rfl
  rw [h3, h5]
  refine bdS (x := db true) (by rw [show eqDepth = 15 + 1 from rfl, eqv_bool]; simp) (ct rfl (ct (by simp) (bdS (texts_self _ _ hl) rfl)))
def exOps : List Mo := [⟨0, bs [97], bs [], 0, 0, 0⟩, ⟨1, bs [97], bs [97, 98], 0, 0, 0⟩, ⟨2, bs [97], bs [], 5, 0, 0⟩, ⟨7, bs [], bs [], 5, 0, 0⟩]
def exF : Fl := ⟨1, bs [97], bs [97, 98], true, 5, false, []⟩
def exS : St := ⟨true, [exF], 1, 5⟩
set_option maxRecDepth 100000 in
theorem ex_run (sum : ByteArray → List Int) : runM sum emptyS exOps = ⟨exS, true, [⟨0, 1, bs [], zeroF, false, []⟩, ⟨0, 2, bs [], zeroF, false, []⟩, ⟨0, 2, bs [], zeroF, false, []⟩, ⟨0, 5, bs [], zeroF, false, []⟩], true,
    [⟨0, 1, bs [97], 0, 0, zeros⟩, ⟨1, 1, bs [], 0, 2, zeros⟩, ⟨2, 1, bs [], 5, 2, sum (bs [97, 98])⟩, ⟨7, 0, bs [], 5, 0, zeros⟩]⟩ := by kernel_rfl
set_option maxRecDepth 100000 in
theorem ex_read (sum : ByteArray → List Int) : doM sum exS ⟨9, bs [97], bs [], 0, 0, 2⟩ = ⟨exS, ⟨0, 0, bs [97, 98], zeroF, false, []⟩, false, []⟩ := by kernel_rfl
set_option maxRecDepth 100000 in
theorem ex_sweep (sum : ByteArray → List Int) : doM sum exS ⟨8, bs [], bs [], 0, 0, 0⟩ = ⟨⟨true, [], 1, 5⟩, ⟨0, 1, bs [], zeroF, false, []⟩, true, [delEv 1]⟩ := by kernel_rfl
theorem ex_ok : ∀ o ∈ exOps, MoOk o := by
  intro o ho
  simp only [exOps, List.mem_cons, List.not_mem_nil, or_false] at ho
  rcases ho with rfl | rfl | rfl | rfl <;> exact ⟨by simp [i64ok], by simp [i64ok], by simp [i64ok], by simp [i64ok], by show (bs _).size ≤ 1000; simp [bs, ByteArray.size], by show (bs _).size ≤ 1000; simp [bs, ByteArray.size]⟩
theorem exS_ok : StOk exS := by
  have := runFrom_ok (sum := fun _ => zeros) (l := exOps) (r := run0 emptyS) emptyS_ok ex_ok
  have h := ex_run (fun _ => zeros)
  unfold runM at h
  rw [h] at this
  exact this
theorem works_M : F17.s FUEL = some (db true) := by
  unfold F17.s
  refine bdS (x := (runM shaL emptyS exOps).enc) (run_spec emptyS true exOps emptyS_ok ex_ok (by simp [exOps])) ?_
  rw [ex_run]
  refine cf rfl (cf rfl (bdS (find_specM exS (bs [97]) (by simp [exS])) (cf rfl ?_)))
  have ho1 : MoOk ⟨9, bs [97], bs [], 0, 0, 2⟩ := ⟨by simp [i64ok], by simp [i64ok], by simp [i64ok], by simp [i64ok], by show (bs _).size ≤ 1000; simp [bs, ByteArray.size], by show (bs _).size ≤ 1000; simp [bs, ByteArray.size]⟩
  have ho2 : MoOk ⟨8, bs [], bs [], 0, 0, 0⟩ := ⟨by simp [i64ok], by simp [i64ok], by simp [i64ok], by simp [i64ok], by show (bs _).size ≤ 1000; simp [bs, ByteArray.size], by show (bs _).size ≤ 1000; simp [bs, ByteArray.size]⟩
  refine bdS (do_specM exS _ exS_ok ho1) (bdS (do_specM exS _ exS_ok ho2) ?_)
  rw [ex_read, ex_sweep]
  refine ct rfl (ct rfl (ct rfl (ct rfl (ct rfl (ct rfl (ct (by simp [Res.enc, An.enc]) (ct rfl (ct rfl (ct rfl ?_)))))))))
  refine bdS (x := db true) ?_ (ct rfl (ct rfl (ct rfl (ct rfl (bdS (valid_state exS_ok) (ct rfl (bdS (same_state exS_ok) (ct rfl (bdS (x := db false) ?_ rfl)))))))))
  · show (match D.eqv ty eqDepth (delEv 1).enc (delEv 1).enc (.struct [34, 3, 9, 3, 3, 36]) with | some z => some (D.bool z) | none => none) = _
    rw [eqv_ev rfl rfl, evEq_self]
  · rfl
end Go.AM.SD
