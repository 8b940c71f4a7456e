/- Part 12 of the proof: the abstract machine, what the functions compute, and plain laws over that. -/
import Derived.Test.YtonknblidjpfeaaSl11
set_option linter.all false
set_option linter.unusedSimpArgs false
set_option linter.unusedVariables false
set_option linter.unusedSectionVars false
set_option linter.all false
set_option autoImplicit false
namespace Go.AM.SP
open Go Go.AM
theorem live_rise (d5 d6 d9 : D) (b : Bool) (B : List Int) (hB : B.Pairwise (· < ·)) (hl : B.length ≤ 1048576) (K : F5.X10 → Option D) :
    goS (F5.st10 FUEL) FUEL ⟨d5, d6, dl b (B.map (D.int .i64)), 1, d9⟩ K = K (.e1 d5 d6 (dl b (B.map (D.int .i64))) d9) := by
  refine goS_rule (fun t : F5.S10 => ∃ k : Nat, t = ⟨d5, d6, dl b (B.map (D.int .i64)), (k : Int), d9⟩ ∧ 1 ≤ k) (fun t => B.length - t.i8.toNat) (fun R => R = K (.e1 d5 d6 (dl b (B.map (D.int .i64))) d9)) ?_ _ _ ⟨1, rfl, by omega⟩ (by simp [FUEL]; omega)
  rintro _ rec ⟨k, rfl, hk⟩ hrec
  simp only [F5.st10]
  by_cases h1 : k < B.length
  · have hsb : sb .i64 (k : Int) 1 = ((k - 1 : Nat) : Int) := by rw [sb64 (by omega) (by omega)]; omega
    have hadd : ad .i64 (k : Int) 1 = ((k + 1 : Nat) : Int) := by rw [ad64 (by omega) (by omega)]; rfl
    have x1 : ix (dl b (B.map (D.int .i64))).elems (k : Int).toNat = di B[k] := ix_map h1
    have x2 : ix (dl b (B.map (D.int .i64))).elems ((k - 1 : Nat) : Int).toNat = di B[k - 1] := ix_map (by omega)
    have hlt := List.pairwise_iff_getElem.1 hB (k - 1) k (by omega) h1 (by omega)
    rw [hsb, hadd, x1, x2]
    refine ct (by simp; omega) (ct (by simp; omega) (ct (by simp; omega) (cf (by simp; omega) ?_)))
    exact hrec _ ⟨k + 1, rfl, by omega⟩ (by simp; omega)
  · exact cf (by simp; omega) rfl
theorem live_parts (d5 d6 d7 : D) (f : Fd) (hl : f.parts.length ≤ 1048576) (h : ∀ (j : Nat) (hj : j < f.parts.length), f.parts[j].kind = 1 ∧ f.parts[j].seq = f.seq ∧ f.parts[j].logic = (j : Int)) (K : F5.X15 → Option D) :
    goS (F5.st15 FUEL) FUEL ⟨d5, d6, d7, 0, f.enc⟩ K = K (.e1 d5 d6 d7 f.enc) := by
  refine goS_rule (fun t : F5.S15 => ∃ k : Nat, t = ⟨d5, d6, d7, (k : Int), f.enc⟩) (fun t => f.parts.length - t.i13.toNat) (fun R => R = K (.e1 d5 d6 d7 f.enc)) ?_ _ _ ⟨0, rfl⟩ (by simp [FUEL]; omega)
  rintro _ rec ⟨k, rfl⟩ hrec
  have h0 : f.enc.at 2 = dl f.pn (f.parts.map Sp.enc) := rfl
  have h1' : (f.enc.at 1).i = f.seq := rfl
  simp only [F5.st15, h0, h1']
  by_cases h1 : k < f.parts.length
  · have hx : ix (dl f.pn (f.parts.map Sp.enc)).elems (k : Int).toNat = f.parts[k].enc := ix_map h1
    have hadd : ad .i64 (k : Int) 1 = ((k + 1 : Nat) : Int) := by rw [ad64 (by omega) (by omega)]; rfl
    have a0 : ((f.parts[k].enc.at 2).at 0).i = f.parts[k].kind := rfl
    have a1 : ((f.parts[k].enc.at 2).at 1).i = f.parts[k].seq := rfl
    have a3 : ((f.parts[k].enc.at 2).at 3).i = f.parts[k].logic := rfl
    obtain ⟨g0, g1, g3⟩ := h k h1
    rw [hx, hadd, a0, a1, a3]
    have e2 : inb (k : Int) (dl f.pn (f.parts.map Sp.enc)).elems.length = true := by simp; omega
    refine ct (by simp; omega) (ct e2 (cf (by simp [g0]) (ct e2 (cf (by simp [g1]) (ct e2 (cf (by simp [g3]) ?_))))))
    exact hrec _ ⟨k + 1, rfl⟩ (by simp; omega)
  · exact cf (by simp; omega) rfl
theorem live_law (nn : Bool) (l : List Sp) : F5.s FUEL (dl nn (l.map Sp.enc)) = some (db true) := by
  unfold F5.s
  refine bdS works_eq (cf (by simp) ?_)
  obtain ⟨b, hb, hfew⟩ := few_ok nn l
  refine bdS hb ?_
  cases b
  · exact ct rfl rfl
  obtain ⟨hl, ht⟩ := hfew rfl
  refine cf rfl ?_
  obtain ⟨f, ok, e, _, hok, hno⟩ := newest_ok nn l hl ht
  refine bdS e ?_
  have hsz : f.root.map.length ≤ 400 ∧ f.parts.length ≤ 60 := by
    cases ok
    · rw [(hno rfl).1]; simp [noRt]
    · have := (hok rfl).1; exact ⟨this.small, by have := this.len; omega⟩
  obtain ⟨b4, e4⟩ := live_ok f (by omega) (by omega)
  refine bdS e4 ?_
  have hBl := blocks_len (liveX f)
  have hXl : (liveX f).length = f.root.map.length + f.parts.length := by simp [liveX]
  refine (live_rise _ _ _ b4 _ (blocks_sorted _) (by omega) _).trans ?_
  refine (live_parts _ _ _ f (by omega) ?_ _).trans ?_
  · intro j hj
    cases ok
    · have := (hno rfl).1; subst this; simp at hj
    · have h9 := first_mem ((hok rfl).1.parts.each j hj)
      exact ⟨h9.2.1, h9.2.2.1, h9.2.2.2.2⟩
  · have h0 : f.enc.at 2 = dl f.pn (f.parts.map Sp.enc) := rfl
    have h1 : (f.enc.at 0).at 0 = dl f.root.mn (f.root.map.map Ey.enc) := rfl
    have hfin : leI (nI (dl b4 ((blocksOf (liveX f)).map (D.int .i64))).elems.length) (ad .i64 (nI (f.enc.at 2).elems.length) (nI ((f.enc.at 0).at 0).elems.length)) = true := by
      rw [h0, h1]
      simp only [elems_slice, List.length_map, nI_eq]
      rw [ad64 (by omega) (by omega)]; simp; omega
    refine ct rfl ?_
    cases ok
    · refine cf rfl (ct ?_ (by show some (db (leI _ _)) = _; exact congrArg (fun z => some (db z)) hfin))
      have := (hno rfl).1; subst this
      simp [liveX, noRt, blocksOf, dd, isort]
    · exact ct rfl (by show some (db (leI _ _)) = _; exact congrArg (fun z => some (db z)) hfin)
theorem run5 (p0 : D) : F5.c.run [p0] = F5.s FUEL p0 := by simp only [F5.c]
theorem pure5 : ∀ ds, D.hass ty ds [(.slice 45)] → D.wfs ds → F5.c.run ds = some (.bool true) := by
  intro ds h hw
  obtain ⟨d0, _, rfl, h0, h⟩ := hassC h
  obtain rfl := hass0 h
  simp only [D.wfs] at hw
  obtain ⟨nn, l, rfl, hl⟩ := sps_of h0 hw.1
  rw [run5]
  exact live_law nn l
end Go.AM.SP
