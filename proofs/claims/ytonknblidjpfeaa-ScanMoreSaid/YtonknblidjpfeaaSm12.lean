/- Part 12 of the proof: the abstract machine, what the functions compute, and plain laws over that. -/
import Derived.Test.YtonknblidjpfeaaSm11
set_option linter.all false
set_option linter.unusedSimpArgs false
set_option linter.unusedVariables false
set_option linter.unusedSectionVars false
set_option linter.all false
set_option autoImplicit false
namespace Go.AM.SP
open Go Go.AM
def eyB (x y : Ey) : Bool := decide (x.logic = y.logic ∧ x.owner = y.owner ∧ x.block = y.block ∧ x.at_ = y.at_)
theorem eqv_ey (x y : Ey) : D.eqv ty eqDepth x.enc y.enc (.struct [3, 3, 3, 3]) = some (eyB x y) := by
  have t3 : ty 3 = .int .i64 := rfl
  show eqvs (D.eqv ty 15) [di x.logic, di x.owner, di x.block, di x.at_] [di y.logic, di y.owner, di y.block, di y.at_] [ty 3, ty 3, ty 3, ty 3] = _
  rw [t3]
  simp only [eqvs, eqv_int 14, eyB]
  by_cases h1 : x.logic = y.logic <;> by_cases h2 : x.owner = y.owner <;> by_cases h3 : x.block = y.block <;> by_cases h4 : x.at_ = y.at_ <;> simp [h1, h2, h3, h4]
theorem same_map (b b' : Bool) (m : List Ey) (hm : m.length ≤ 1048576) : F31.s FUEL (dl b (m.map Ey.enc)) (dl b' (m.map Ey.enc)) = some (db true) := by
  unfold F31.s
  refine cf (by simp) ?_
  refine goS_rule (fun t : F31.S4 => ∃ k : Nat, t = ⟨dl b (m.map Ey.enc), dl b' (m.map Ey.enc), (m.length : Int), (k : Int)⟩ ∧ k ≤ m.length) (fun t => m.length - t.i4.toNat) (fun R => R = some (db true)) ?_ _ _ ⟨0, by simp, by omega⟩ (by simp [FUEL]; omega)
  rintro _ rec ⟨k, rfl, hk⟩ hrec
  simp only [F31.st4]
  by_cases h1 : k < m.length
  · have hadd : ad .i64 (k : Int) 1 = ((k + 1 : Nat) : Int) := by rw [ad64 (by omega) (by omega)]; rfl
    have x1 : ix (dl b (m.map Ey.enc)).elems (k : Int).toNat = m[k].enc := ix_map h1
    have x2 : ix (dl b' (m.map Ey.enc)).elems (k : Int).toNat = m[k].enc := ix_map h1
    rw [x1, x2, eqv_ey, hadd]
    refine ct (by simp; omega) (ct (by simp; omega) (ct (by simp; omega) ?_))
    have : eyB m[k] m[k] = true := by simp [eyB]
    rw [this]
    refine bdS rfl (cf rfl ?_)
    exact hrec _ ⟨k + 1, rfl, by omega⟩ (by simp; omega)
  · exact cf (by simp; omega) rfl
theorem hi_ge (l e : List Sp) : hi l ≤ hi (l ++ e) := by
  have key : ∀ (e : List Sp) (h : Int), h ≤ e.foldl (fun h p => maxi h p.seq) h := by
    intro e
    induction e with
    | nil => intro h; exact Int.le_refl _
    | cons p e ih =>
      intro h
      refine Int.le_trans ?_ (ih (maxi h p.seq))
      unfold maxi; split <;> omega
  simp only [hi, List.foldl_append]
  exact key e _
def keepB (s : Int) (p : Sp) : Bool := p.kind == 0 || decide (p.seq < s)
theorem first_more {l e : List Sp} {s0 s n : Int} (he : ∀ p ∈ e, keepB s0 p = true) (hs : s0 ≤ s) : first (l ++ e) s n = first l s n := by
  unfold first
  rw [List.find?_append]
  have : e.find? (isPart s n) = none := by
    rw [List.find?_eq_none]
    intro p hp hpart
    have h1 := he p hp
    simp [isPart] at hpart
    simp [keepB] at h1
    omega
  rw [this]; simp
theorem holds_more {l e : List Sp} {m : List Ey} (h : holdsB l m = true) : holdsB (l ++ e) m = true := by
  unfold holdsB at *
  rw [List.all_eq_true] at *
  intro x hx
  rw [List.any_append, h x hx]; rfl
theorem good_more {l e : List Sp} {s : Int} {P : List Sp} {r : Rt} (h : Hit l s P r) (he : ∀ p ∈ e, keepB s p = true) : Good (l ++ e) s := by
  refine ⟨P, r, ⟨fun j hj => ?_, ?_⟩, h.get, holds_more h.holds⟩
  · rw [first_more he (Int.le_refl _)]; exact h.parts.each j hj
  · rw [first_more he (Int.le_refl _)]; exact h.parts.last
theorem same_gone (b b' : Bool) (g : List Int) (hm : g.length ≤ 1048576) : F32.s FUEL (dl b (g.map (D.int .i64))) (dl b' (g.map (D.int .i64))) = some (db true) := by
  unfold F32.s
  refine cf (by simp) ?_
  refine goS_rule (fun t : F32.S4 => ∃ k : Nat, t = ⟨dl b (g.map (D.int .i64)), dl b' (g.map (D.int .i64)), (g.length : Int), (k : Int)⟩ ∧ k ≤ g.length) (fun t => g.length - t.i4.toNat) (fun R => R = some (db true)) ?_ _ _ ⟨0, by simp, by omega⟩ (by simp [FUEL]; omega)
  rintro _ rec ⟨k, rfl, hk⟩ hrec
  simp only [F32.st4]
  by_cases h1 : k < g.length
  · have hadd : ad .i64 (k : Int) 1 = ((k + 1 : Nat) : Int) := by rw [ad64 (by omega) (by omega)]; rfl
    have x1 : ix (dl b (g.map (D.int .i64))).elems (k : Int).toNat = di g[k] := ix_map h1
    have x2 : ix (dl b' (g.map (D.int .i64))).elems (k : Int).toNat = di g[k] := ix_map h1
    rw [x1, x2, hadd]
    refine ct (by simp; omega) (ct (by simp; omega) (ct (by simp; omega) (cf (by simp) ?_)))
    exact hrec _ ⟨k + 1, rfl, by omega⟩ (by simp; omega)
  · exact cf (by simp; omega) rfl
theorem same_ok (r r' : Rt) (h1 : r.map = r'.map) (h2 : r.gone = r'.gone) (hm : r.map.length ≤ 1048576) (hg : r.gone.length ≤ 1048576) : F20.s FUEL r.enc r'.enc = some (db true) := by
  unfold F20.s
  have a0 : r.enc.at 0 = dl r.mn (r.map.map Ey.enc) := rfl
  have a1 : r.enc.at 1 = dl r.gn (r.gone.map (D.int .i64)) := rfl
  have b0 : r'.enc.at 0 = dl r'.mn (r.map.map Ey.enc) := by rw [h1]; rfl
  have b1 : r'.enc.at 1 = dl r'.gn (r.gone.map (D.int .i64)) := by rw [h2]; rfl
  rw [a0, a1, b0, b1]
  exact bdS (same_map _ _ _ hm) (ct rfl (bdS (same_gone _ _ _ hg) rfl))
theorem more_loop (n1 nn : Bool) (l more : List Sp) (d6 d7 : D) (f : Fd) (hl : l.length ≤ 60) (hm : more.length ≤ 60) (b0 : Bool) (K : F7.X11 → Option D) :
    ∃ b, goS (F7.st11 FUEL) FUEL ⟨dl n1 (more.map Sp.enc), d6, d7, 0, (dl nn (l.map Sp.enc)).elems.length, 0, f.enc, b0, (dl nn (l.map Sp.enc)).elems⟩ K =
      K (.e0 d6 d7 0 (l ++ more.filter (keepB f.seq)).length f.enc b ((l ++ more.filter (keepB f.seq)).map Sp.enc)) := by
  have hlen : ∀ k, ((more.take k).filter (keepB f.seq)).length ≤ 60 := by
    intro k
    refine Nat.le_trans (List.length_filter_le _ _) ?_
    rw [List.length_take]; omega
  refine goS_rule (fun t : F7.S11 => ∃ (k : Nat) (b : Bool), t = ⟨dl n1 (more.map Sp.enc), d6, d7, 0, (l ++ (more.take k).filter (keepB f.seq)).length, (k : Int), f.enc, b, (l ++ (more.take k).filter (keepB f.seq)).map Sp.enc⟩ ∧ k ≤ more.length) (fun t => more.length - t.i10.toNat)
    (fun R => ∃ b, R = K (.e0 d6 d7 0 (l ++ more.filter (keepB f.seq)).length f.enc b ((l ++ more.filter (keepB f.seq)).map Sp.enc))) ?_ _ _ ⟨0, b0, by simp, by omega⟩ (by simp [FUEL]; omega)
  rintro _ rec ⟨k, b, rfl, hk⟩ hrec
  simp only [F7.st11]
  by_cases h1 : k < more.length
  · have hx : ix (dl n1 (more.map Sp.enc)).elems (k : Int).toNat = more[k].enc := ix_map h1
    have e1 : ltI (k : Int) (nI (dl n1 (more.map Sp.enc)).elems.length) = true := by simp; omega
    have e3 : inb (k : Int) (dl n1 (more.map Sp.enc)).elems.length = true := by simp; omega
    have hadd : ad .i64 (k : Int) 1 = ((k + 1 : Nat) : Int) := by rw [ad64 (by omega) (by omega)]; rfl
    have hmx : mx ((l ++ (more.take k).filter (keepB f.seq)).length + 1) = true := by have := hlen k; simp; omega
    have a0 : ((more[k].enc.at 2).at 0).i = more[k].kind := rfl
    have a1 : ((more[k].enc.at 2).at 1).i = more[k].seq := rfl
    have a2 : (f.enc.at 1).i = f.seq := rfl
    have step : l ++ (more.take (k + 1)).filter (keepB f.seq) = (l ++ (more.take k).filter (keepB f.seq)) ++ (if keepB f.seq more[k] then [more[k]] else []) := by
      rw [List.take_succ_eq_append_getElem h1, List.filter_append, ← List.append_assoc]
      congr 1
      cases hb : keepB f.seq more[k] <;> simp [hb]
    rw [e1, e3, hx, hadd, hmx, a0, a1, a2]
    simp only [cond_true]
    have keep : keepB f.seq more[k] = true → ∃ b', rec ⟨dl n1 (more.map Sp.enc), d6, d7, 0, (l ++ (more.take k).filter (keepB f.seq)).length + 1, ((k + 1 : Nat) : Int), f.enc, (b || true), ap ((((l ++ (more.take k).filter (keepB f.seq)).map Sp.enc).drop 0).take (l ++ (more.take k).filter (keepB f.seq)).length) [more[k].enc]⟩ = K (.e0 d6 d7 0 (l ++ more.filter (keepB f.seq)).length f.enc b' ((l ++ more.filter (keepB f.seq)).map Sp.enc)) := by
      intro hb
      refine hrec _ ⟨k + 1, b || true, ?_, by omega⟩ (by simp; omega)
      rw [step, hb, List.drop_zero, show ((l ++ (more.take k).filter (keepB f.seq)).map Sp.enc).take (l ++ (more.take k).filter (keepB f.seq)).length = (l ++ (more.take k).filter (keepB f.seq)).map Sp.enc from List.take_of_length_le (by rw [List.length_map]; omega)]
      simp [ap]; try omega
    by_cases g1 : more[k].kind = 0
    · rw [show eqI more[k].kind 0 = true by simp [g1]]
      exact keep (by simp [keepB, g1])
    · rw [show eqI more[k].kind 0 = false by simp [g1]]
      simp only [cond_false]
      by_cases g2 : more[k].seq < f.seq
      · rw [show ltI more[k].seq f.seq = true by simp [g2]]
        exact keep (by simp [keepB, g2])
      · rw [show ltI more[k].seq f.seq = false by simp; omega]
        simp only [cond_false]
        refine hrec _ ⟨k + 1, b, ?_, by omega⟩ (by simp; omega)
        have hb : keepB f.seq more[k] = false := by simp [keepB, g1]; omega
        rw [step, hb]; simp
  · have e1 : ltI (k : Int) (nI (dl n1 (more.map Sp.enc)).elems.length) = false := by simp; omega
    rw [e1]
    have hkl : k = more.length := by omega
    subst hkl
    rw [take_all]
    exact ⟨b, rfl⟩
theorem seqs_app {l e : List Sp} {s : Int} (h : s ∈ seqsOf l) : s ∈ seqsOf (l ++ e) := by
  unfold seqsOf at *
  rw [List.filter_append, List.map_append]
  exact List.mem_append_left _ h
theorem more_law (nn : Bool) (l : List Sp) (n1 : Bool) (more : List Sp) : F7.s FUEL (dl nn (l.map Sp.enc)) (dl n1 (more.map Sp.enc)) = some (db true) := by
  unfold F7.s
  refine bdS works_eq (cf (by simp) ?_)
  obtain ⟨b, hb, hfew⟩ := few_ok nn l
  refine bdS hb ?_
  cases b
  · exact cf rfl rfl
  obtain ⟨hl, ht⟩ := hfew rfl
  refine ct rfl ?_
  obtain ⟨b', hb', hfew'⟩ := few_ok n1 more
  refine bdS hb' ?_
  cases b'
  · exact ct rfl rfl
  obtain ⟨hl', ht'⟩ := hfew' rfl
  refine cf rfl ?_
  obtain ⟨f, ok, e, hhi, hok, hno⟩ := newest_ok nn l (by omega) ht
  refine bdS e (ct (by simp; omega) ?_)
  obtain ⟨bb, el⟩ := more_loop n1 nn l more (db true) (db ok) f hl hl' (!(dl nn (l.map Sp.enc)).elems.isEmpty) (fun x => match x with | .e0 d6 d7 n8 n9 d11 b12 l13 => (bd (F17.s FUEL (dl b12 ((l13.drop n8).take n9))) fun r14 => (cond (!d7.b) (some d6) (cond d6.b (cond (r14.at 1).b (cond (geI ((r14.at 0).at 1).i (d11.at 1).i) (cond (gtI ((r14.at 0).at 1).i (d11.at 1).i) (some (db (geI ((r14.at 0).at 3).i (d11.at 3).i))) (bd (F20.s FUEL (d11.at 0) ((r14.at 0).at 0)) fun r15 => (cond r15.b (cond (eqI (nI ((r14.at 0).at 2).elems.length) (nI (d11.at 2).elems.length)) (some (db (geI ((r14.at 0).at 3).i (d11.at 3).i))) (some (db false))) (some (db false))))) (some (db false))) (some (db false))) (some (db false))))))
  refine el.trans ?_
  have hk : ∀ p ∈ more.filter (keepB f.seq), keepB f.seq p = true := fun p hp => (List.mem_filter.1 hp).2
  have hel : (more.filter (keepB f.seq)).length ≤ 60 := Nat.le_trans (List.length_filter_le _ _) hl'
  have het : ∀ x ∈ more.filter (keepB f.seq), x.text.size ≤ 230 := fun x hx => ht' x (List.mem_filter.1 hx).1
  generalize more.filter (keepB f.seq) = ex at *
  have hrow : (((l ++ ex).map Sp.enc).drop 0).take (l ++ ex).length = (l ++ ex).map Sp.enc := by
    rw [List.drop_zero]; exact List.take_of_length_le (by simp)
  obtain ⟨g, is, e2, ghi, gok, gno⟩ := newest_ok bb (l ++ ex) (by simp; omega) (by
    intro x hx
    rcases List.mem_append.1 hx with h | h
    · exact ht x h
    · exact het x h)
  refine bdS (x := D.tup [g.enc, db is]) (by rw [hrow]; exact e2) ?_
  cases ok
  · exact ct rfl rfl
  obtain ⟨hit, hpn, hmem, _⟩ := hok rfl
  have hgood : Good (l ++ ex) f.seq := good_more hit hk
  have hmem' : f.seq ∈ seqsOf (l ++ ex) := seqs_app hmem
  cases is
  · exact absurd hgood ((gno rfl).2 _ hmem')
  obtain ⟨ghit, gpn, gmem, gmax⟩ := gok rfl
  have hge : f.seq ≤ g.seq := Int.not_lt.1 (fun h => gmax _ hmem' h hgood)
  have hh : geI g.high f.high = true := by
    rw [ghi, hhi]; have := hi_ge l ex; simp; exact this
  refine cf rfl (ct rfl (ct rfl (ct (by show geI g.seq f.seq = true; simp; exact hge) ?_)))
  by_cases hgt : f.seq < g.seq
  · refine ct (by show gtI g.seq f.seq = true; simp; exact hgt) ?_
    show some (db (geI g.high f.high)) = _
    rw [hh]
  · have heq : g.seq = f.seq := by omega
    have hP : f.parts = g.parts := by
      have h1 := ghit.parts
      rw [heq] at h1
      exact parts_uniq hit.parts h1 (fun n => (first_more hk (Int.le_refl _)).symm)
    have hR : f.root = g.root := by
      have h1 := hit.get
      rw [hP, ghit.get] at h1
      simp only [Option.some.injEq, D.tup.injEq, List.cons.injEq, and_true] at h1
      exact (rt_inj h1).symm
    refine cf (by show gtI g.seq f.seq = false; simp; omega) (bdS (x := db true) ?_ (ct rfl (ct ?_ ?_)))
    · show F20.s FUEL f.root.enc g.root.enc = _
      exact same_ok _ _ (by rw [hR]) (by rw [hR]) (by have := hit.small; omega) (by have := hit.smallg; omega)
    · show eqI (nI (g.parts.map Sp.enc).length) (nI (f.parts.map Sp.enc).length) = true
      rw [hP]; simp [eqI]
    · show some (db (geI g.high f.high)) = _
      rw [hh]
theorem run7 (p0 p1 : D) : F7.c.run [p0, p1] = F7.s FUEL p0 p1 := by simp only [F7.c]
theorem pure7 : ∀ ds, D.hass ty ds [(.slice 45), (.slice 45)] → D.wfs ds → F7.c.run ds = some (.bool true) := by
  intro ds h hw
  obtain ⟨d0, _, rfl, h0, h⟩ := hassC h
  obtain ⟨d1, _, rfl, h1, h⟩ := hassC h
  obtain rfl := hass0 h
  simp only [D.wfs] at hw
  obtain ⟨nn, l, rfl, hl⟩ := sps_of h0 hw.1
  obtain ⟨n1, l1, rfl, hl1⟩ := sps_of h1 hw.2.1
  rw [run7]
  exact more_law nn l n1 l1
end Go.AM.SP
