/- Part 9 of the proof: the abstract machine, what the functions compute, and plain laws over that. -/
import Derived.Test.YtonknblidjpfeaaDoorRp8
set_option linter.all false
set_option linter.unusedSimpArgs false
set_option linter.unusedVariables false
set_option linter.unusedSectionVars false
namespace Go.AM.SD
open Go Go.AM
theorem evs_of {d : D} (h : D.has ty d (.slice 38)) (hw : D.wf d) : ∃ (nn : Bool) (l : List Ev), d = dl nn (l.map Ev.enc) ∧ ∀ e ∈ l, e.ok := by
  obtain ⟨nn, ds, rfl, h1, h2⟩ := hass_slice h
  simp only [D.wf] at hw
  obtain ⟨l, rfl, _, hl⟩ := hass_rep (f := Ev.enc) (Q := fun e : Ev => e.ok) (fun d h1 h2 => ev_of (fs := [34, 3, 9, 3, 3, 36]) (e := 5) rfl rfl h1 h2) h1 (by first | exact hw | exact hw.1 | exact hw.2)
  exact ⟨nn, l, rfl, hl⟩
theorem pure3 : ∀ ds, D.hass ty ds [(.slice 38), (.int .i64)] → D.wfs ds → F3.c.run ds = some (.bool true) := by
  intro ds h hw
  obtain ⟨d0, _, rfl, h0, h⟩ := hassC h
  obtain ⟨d1, _, rfl, h1, h⟩ := hassC h
  obtain rfl := hass0 h
  simp only [D.wfs] at hw
  obtain ⟨nn, l, rfl, hl⟩ := evs_of h0 hw.1
  obtain ⟨n, rfl⟩ := has_int h1
  exact parts_law nn l hl n
end Go.AM.SD
namespace Go.AM.SD
open Go Go.AM
theorem run_step {l : List Ev} {k : Nat} {b : Bk} (h1 : k < l.length) (h0 : (runB (l.drop k) b k).2.1 = 0) :
    (playB b l[k]).2 = 0 ∧ evB l[k] = true ∧ runB (l.drop k) b k = runB (l.drop (k + 1)) (playB b l[k]).1 (k + 1) := by
  rw [List.drop_eq_getElem_cons h1, runB] at h0 ⊢
  by_cases h2 : (playB b l[k]).2 = 0
  · rw [if_pos h2]
    refine ⟨h2, ?_, rfl⟩
    cases hv : evB l[k] with
    | true => rfl
    | false => rw [play_bad b _ hv] at h2; simp at h2
  · rw [if_neg h2] at h0
    exact absurd h0 h2
theorem ticks_law (nn : Bool) (l : List Ev) (hs : ∀ e ∈ l, e.ok) : F4.s FUEL (dl nn (l.map Ev.enc)) = some (db true) := by
  unfold F4.s
  refine bdS works_spec (cf rfl (bdS (few_spec nn l) ?_))
  cases hf : fewB l with
  | false => exact ct rfl rfl
  | true =>
    obtain ⟨hlen, hl⟩ := few_ok hf hs
    refine cf rfl (bdS (all_spec nn l hl (by omega)) ?_)
    rcases Classical.em (¬ (runB l emptyB 0).2.1 = 0) with h0 | h0
    · exact ct (by show neI (runB l emptyB 0).2.1 0 = true; simpa using h0) rfl
    replace h0 := Classical.not_not.1 h0
    refine cf (by show neI (runB l emptyB 0).2.1 0 = false; simpa using h0) ?_
    show goS (F4.st13 FUEL) FUEL ⟨dl nn (l.map Ev.enc), db true, di 0, di 0, 0, (runB l emptyB 0).1.enc⟩ _ = _
    obtain ⟨R, hR⟩ : ∃ R, R = runB l emptyB 0 := ⟨_, rfl⟩
    rw [← hR] at h0 ⊢
    refine goS_rule (fun t : F4.S13 => ∃ (k : Nat) (b : Bk), t = ⟨dl nn (l.map Ev.enc), db true, di b.floor, di b.last, (k : Int), R.1.enc⟩ ∧ k ≤ l.length ∧ BkOk b ∧ R = runB (l.drop k) b k) (fun t => l.length - t.i14.toNat) (fun o => o = some (db true)) ?_ _ _ ⟨0, emptyB, rfl, by omega, empty_ok, by simpa using hR⟩ (by simp [FUEL]; omega)
    rintro _ rec ⟨k, b, rfl, hk, hb, hr⟩ hrec
    simp only [F4.st13]
    by_cases h1 : k < l.length
    · have hin : inb (k : Int) (l.map Ev.enc).length = true := by simp; omega
      obtain ⟨h2, hv, hr'⟩ := run_step h1 (by rw [← hr]; exact h0)
      have he := hl _ (List.getElem_mem h1)
      have hb' := play_ok hb he.2.1 he.2.2
      refine ct (by simp; omega) ?_
      simp only [elems_slice, Int.toNat_natCast, ix_map h1]
      generalize hek : l[k] = e at *
      have hcase := play_cases b e hv h2
      obtain ⟨hk0, hk7, hl0, hl6, hl1, ht0, ht1, hid', hev⟩ := valid_range hv
      have hbl := hb.last1
      have hbl0 := hb.last0
      have hnext : ∀ f g : Int, f = (playB b e).1.floor → g = (playB b e).1.last → rec ⟨dl nn (l.map Ev.enc), db true, di f, di g, ad .i64 k 1, R.1.enc⟩ = some (db true) := by
        intro f g hf hg
        refine hrec _ ⟨k + 1, (playB b e).1, ?_, by omega, hb', by rw [hr, hr']⟩ ?_
        · rw [ad64 (by omega) (by omega), hf, hg]; rfl
        · rw [ad64 (by omega) (by omega)]; simp; omega
      rcases hcase with ⟨h7, h8, h9⟩ | ⟨hk0', h8, h9, h10⟩ | ⟨h7, hz, i, hi, h8, h9⟩
      · refine ct hin (ct (by show eqI e.kind 7 = true; simpa using h7) (ct hin (cf (by show leI e.time b.floor = false; simpa using h8) (ct hin (ct hin (cf (by show eqI e.kind 0 = false; simp; omega) (ct hin (cf (by show neI e.kind 7 = false; simpa using h7) ?_))))))))
        exact hnext e.time b.last (by rw [h9]) (by rw [h9])
      · refine ct hin (cf (by show eqI e.kind 7 = false; simp; omega) (ct hin (ct (by show eqI e.kind 0 = true; simpa using hk0') (ct hin (cf ?_ (ct hin (ct hin (ct (by show neI e.kind 7 = true; simp; omega) (ct hin (cf (by show gtI e.id e.id = false; simp) ?_))))))))))
        · show neI e.id (ad .i64 b.last 1) = false
          rw [ad64 (by omega) (by omega)]; simpa using h8
        · exact hnext b.floor e.id (by rw [h10]) (by rw [h10])
      · have hle : e.id ≤ b.last := by have := (hb.es _ (List.getElem_mem hi)).id1; omega
        have hsame : b.floor = (playB b e).1.floor ∧ b.last = (playB b e).1.last := by
          rcases h9 with ⟨_, h9⟩ | ⟨_, y, _, h9⟩
          · rw [h9]; exact ⟨rfl, rfl⟩
          · rw [h9]; exact ⟨rfl, rfl⟩
        refine ct hin (cf (by show eqI e.kind 7 = false; simpa using h7) (ct hin (cf (by show eqI e.kind 0 = false; simpa using hz) (ct hin (ct (by show neI e.kind 7 = true; simpa using h7) (ct hin (cf (by show gtI e.id b.last = false; simpa using hle) ?_)))))))
        exact hnext b.floor b.last hsame.1 hsame.2
    · refine cf (by simp; omega) ?_
      rw [List.drop_of_length_le (by omega), runB] at hr
      rw [hr]
      exact ct rfl (ct (by show eqI b.floor b.floor = true; simp) (by show some (db (eqI b.last b.last)) = _; simp [eqI]))
theorem pure4 : ∀ ds, D.hass ty ds [(.slice 38)] → D.wfs ds → F4.c.run ds = some (.bool true) := by
  intro ds h hw
  obtain ⟨d0, _, rfl, h0, h⟩ := hassC h
  obtain rfl := hass0 h
  simp only [D.wfs] at hw
  obtain ⟨nn, l, rfl, hl⟩ := evs_of h0 hw.1
  exact ticks_law nn l hl
def lenOf (e : Ev) (id : Int) : Int := if e.kind = 1 ∧ e.id = id then e.len else 0
def sumL : List Ev → Int → Int
  | [], _ => 0
  | e :: l, id => lenOf e id + sumL l id
theorem sumL_append (id : Int) : ∀ a b, sumL (a ++ b) id = sumL a id + sumL b id
  | [], b => by simp [sumL]
  | e :: a, b => by simp only [List.cons_append, sumL, sumL_append id a b]; omega
theorem sumL_take {l : List Ev} {k : Nat} (h : k < l.length) (id : Int) : sumL (l.take (k + 1)) id = sumL (l.take k) id + lenOf l[k] id := by
  rw [List.take_succ_eq_append_getElem h, sumL_append]
  simp [sumL]
structure LenInv (l : List Ev) (k : Nat) (b : Bk) : Prop where
  ok : BkOk b
  dist : (b.es.map fun x => x.file.id).Nodup
  len : ∀ x ∈ b.es, x.len = sumL (l.take k) x.file.id
  new : ∀ id, b.last < id → sumL (l.take k) id = 0
  told : ∀ j (h : j < l.length), j < k → l[j].kind = 2 → l[j].len = sumL (l.take j) l[j].id
  pos : ∀ j (h : j < l.length), j < k → 0 ≤ l[j].len ∧ l[j].len ≤ 600
theorem len_step {l : List Ev} {k : Nat} {b : Bk} (hl : EvsOk l) (h1 : k < l.length) (hb : LenInv l k b) (h2 : (playB b l[k]).2 = 0) (hv : evB l[k] = true) : LenInv l (k + 1) (playB b l[k]).1 := by
  have he := hl _ (List.getElem_mem h1)
  have hok := play_ok hb.ok he.2.1 he.2.2
  obtain ⟨hk0, hk7, hl0, hl6, hl1, ht0, ht1, hid', hev⟩ := valid_range hv
  have hpos : ∀ j (h : j < l.length), j < k + 1 → 0 ≤ l[j].len ∧ l[j].len ≤ 600 := by
    intro j h hj
    by_cases hjk : j = k
    · subst hjk; exact ⟨hl0, hl6⟩
    · exact hb.pos j h (by omega)
  rcases play_cases b _ hv h2 with ⟨h7, h8, h9⟩ | ⟨hz, h8, h9, h10⟩ | ⟨h7, hz, i, hi, h8, h9⟩
  · have hlen0 : ∀ id, lenOf l[k] id = 0 := fun id => if_neg (by omega)
    rw [h9] at hok ⊢
    refine ⟨hok, hb.dist, fun x hx => ?_, fun id hid => ?_, fun j h hj hj2 => ?_, hpos⟩
    · rw [sumL_take h1, hlen0, hb.len x hx]; omega
    · rw [sumL_take h1, hlen0, hb.new id hid]; rfl
    · by_cases hjk : j = k
      · subst hjk; omega
      · exact hb.told j h (by omega) hj2
  · have hlen0 : ∀ id, lenOf l[k] id = 0 := fun id => if_neg (by omega)
    rw [h10] at hok ⊢
    have hnew : ∀ x ∈ b.es, x.file.id < l[k].id := fun x hx => by have := (hb.ok.es x hx).id1; omega
    refine ⟨hok, ?_, fun x hx => ?_, fun id hid => ?_, fun j h hj hj2 => ?_, hpos⟩
    · show ((b.es ++ [_]).map _).Nodup
      rw [List.map_append, List.nodup_append]
      refine ⟨hb.dist, by simp, ?_⟩
      intro a ha c hc
      simp only [List.map_cons, List.map_nil, List.mem_singleton] at hc
      obtain ⟨x, hx, rfl⟩ := List.mem_map.1 ha
      have := hnew x hx
      omega
    · rw [sumL_take h1, hlen0]
      simp only [List.mem_append, List.mem_singleton] at hx
      rcases hx with hx | rfl
      · rw [hb.len x hx]; omega
      · show (0 : Int) = sumL (l.take k) l[k].id + 0
        rw [hb.new _ (by omega)]; rfl
    · rw [sumL_take h1, hlen0, hb.new id (by have : l[k].id < id := hid; omega)]; rfl
    · by_cases hjk : j = k
      · subst hjk; omega
      · exact hb.told j h (by omega) hj2
  · have hle := (hb.ok.es _ (List.getElem_mem hi)).id1
    have hother : ∀ id, b.last < id → lenOf l[k] id = 0 := fun id hid => if_neg (by omega)
    have hseal : ∀ j (h : j < l.length), j < k + 1 → l[j].kind = 2 → l[j].len = sumL (l.take j) l[j].id := by
      intro j h hj hj2
      by_cases hjk : j = k
      · subst hjk
        rcases h9 with ⟨h6, _⟩ | ⟨_, y, hy, _⟩
        · omega
        · unfold deedE at hy
          rw [if_neg (by omega), if_pos hj2] at hy
          by_cases h5 : b.es[i].len ≠ l[j].len
          · rw [if_pos h5] at hy; cases hy
          · have := hb.len _ (List.getElem_mem hi)
            rw [h8] at this
            omega
      · exact hb.told j h (by omega) hj2
    rcases h9 with ⟨h6, h9⟩ | ⟨h6, y, hy, h9⟩
    · have hlen0 : ∀ id, lenOf l[k] id = 0 := fun id => if_neg (by omega)
      rw [h9] at hok ⊢
      refine ⟨hok, ?_, fun x hx => ?_, fun id hid => ?_, hseal, hpos⟩
      · show ((b.es.eraseIdx i).map _).Nodup
        exact hb.dist.sublist ((List.eraseIdx_sublist _ _).map _)
      · rw [sumL_take h1, hlen0, hb.len x (List.mem_of_mem_eraseIdx hx)]; omega
      · rw [sumL_take h1, hlen0, hb.new id hid]; rfl
    · rw [h9] at hok ⊢
      have hyid := deed_id hy
      have hylen := deed_len hy
      have hmap : (b.es.set i y).map (fun x => x.file.id) = b.es.map fun x => x.file.id := by
        rw [List.map_set, hyid]
        have : b.es[i].file.id = (b.es.map fun x => x.file.id)[i]'(by simpa using hi) := by simp
        rw [this, List.set_getElem_self]
      refine ⟨hok, by show ((b.es.set i y).map _).Nodup; rw [hmap]; exact hb.dist, fun x hx => ?_, fun id hid => ?_, hseal, hpos⟩
      · rw [sumL_take h1]
        obtain ⟨j, hj, rfl⟩ := List.getElem_of_mem hx
        rw [List.getElem_set]
        have hj' : j < b.es.length := by simpa using hj
        by_cases hij : i = j
        · subst hij
          simp only [if_true]
          rw [hyid, hylen, hb.len _ (List.getElem_mem hi), lenOf]
          by_cases hk1 : l[k].kind = 1
          · rw [if_pos hk1, if_pos ⟨hk1, h8.symm⟩]
          · rw [if_neg hk1, if_neg (fun h => hk1 h.1)]; omega
        · simp only [if_neg hij]
          have hne : b.es[j].file.id ≠ l[k].id := by
            rw [← h8]
            intro heq
            have := (List.getElem_inj (i := j) (j := i) (h₀ := by simpa using hj') (h₁ := by simpa using hi) hb.dist).1 (by simpa using heq)
            omega
          rw [lenOf, if_neg (by omega), hb.len _ (List.getElem_mem hj')]; omega
      · rw [sumL_take h1, hother id hid, hb.new id hid]; rfl
theorem len_run {l : List Ev} (hl : EvsOk l) (h0 : (runB l emptyB 0).2.1 = 0) : ∀ k, k ≤ l.length → ∃ b, runB l emptyB 0 = runB (l.drop k) b k ∧ LenInv l k b
  | 0, _ => ⟨emptyB, by simp, empty_ok, by simp [emptyB], by simp [emptyB], by simp [sumL], by omega, by omega⟩
  | k + 1, hk => by
    obtain ⟨b, hr, hb⟩ := len_run hl h0 k (by omega)
    obtain ⟨h2, hv, hr'⟩ := run_step (l := l) (k := k) (b := b) (by omega) (by rw [← hr]; exact h0)
    exact ⟨_, hr.trans hr', len_step hl (by omega) hb h2 hv⟩
theorem sum_range {l : List Ev} (h : ∀ j (h : j < l.length), 0 ≤ l[j].len ∧ l[j].len ≤ 600) (id : Int) : ∀ k, k ≤ l.length → 0 ≤ sumL (l.take k) id ∧ sumL (l.take k) id ≤ 600 * k
  | 0, _ => by simp [sumL]
  | k + 1, hk => by
    have := sum_range h id k (by omega)
    have h1 := h k (by omega)
    rw [sumL_take (by omega), lenOf]
    split <;> omega
theorem inner_len (nn : Bool) (l : List Ev) (hlen : l.length ≤ 20) (b : Bk) (j : Nat) (hj : j < b.es.length) (hp : ∀ j (h : j < l.length), 0 ≤ l[j].len ∧ l[j].len ≤ 600)
    (hseal : ∀ j (h : j < l.length), l[j].kind = 2 → l[j].len = sumL (l.take j) l[j].id) (K : F5.X15 → Option D) (R : Option D)
    (hK : K (.e3 (dl nn (l.map Ev.enc)) (db true) j (sumL l b.es[j].file.id) l.length b.enc) = R) :
    goS (F5.st15 FUEL) FUEL ⟨dl nn (l.map Ev.enc), db true, j, 0, 0, b.enc⟩ K = R := by
  refine goS_rule (fun t : F5.S15 => ∃ k : Nat, t = ⟨dl nn (l.map Ev.enc), db true, j, sumL (l.take k) b.es[j].file.id, (k : Int), b.enc⟩ ∧ k ≤ l.length) (fun t => l.length - t.i12.toNat) (fun o => o = R) ?_ _ _ ⟨0, by simp [sumL], by omega⟩ (by simp [FUEL]; omega)
  rintro _ rec ⟨k, rfl, hk⟩ hrec
  simp only [F5.st15]
  have hbox : ix (b.enc.at 0).elems j = b.es[j].enc := by
    show ix (b.es.map En.enc) j = _
    rw [ix_map hj]
  have hbl : inb (j : Int) (b.enc.at 0).elems.length = true := by
    show inb (j : Int) (b.es.map En.enc).length = true
    simp; omega
  by_cases h1 : k < l.length
  · have hin : inb (k : Int) (l.map Ev.enc).length = true := by simp; omega
    refine ct (by simp; omega) ?_
    simp only [elems_slice, Int.toNat_natCast, ix_map h1, hbox]
    have hnext : ∀ s : Int, s = sumL (l.take (k + 1)) b.es[j].file.id → rec ⟨dl nn (l.map Ev.enc), db true, j, s, ad .i64 k 1, b.enc⟩ = R := by
      intro s hs
      refine hrec _ ⟨k + 1, ?_, by omega⟩ ?_
      · rw [ad64 (by omega) (by omega), hs]; rfl
      · rw [ad64 (by omega) (by omega)]; simp; omega
    have hsr := sum_range hp b.es[j].file.id k hk
    have hpk := hp k h1
    have hsl := hseal k h1
    have hst := sumL_take h1 b.es[j].file.id
    rw [lenOf] at hst
    generalize hek : l[k] = e at *
    generalize hx : b.es[j] = x at *
    refine ct hin ?_
    by_cases hk1 : e.kind = 1
    · refine ct (by show eqI e.kind 1 = true; simpa using hk1) (ct hin (ct hbl ?_))
      by_cases hid : e.id = x.file.id
      · refine ct (by show eqI e.id x.file.id = true; simpa using hid) (ct hin (ct hin (cf (by show eqI e.kind 2 = false; simp; omega) (hnext _ ?_))))
        rw [if_pos ⟨hk1, hid⟩] at hst
        rw [hst]
        show ad .i64 _ e.len = _
        rw [ad64 (by omega) (by omega)]
      · refine cf (by show eqI e.id x.file.id = false; simpa using hid) (ct hin (cf (by show eqI e.kind 2 = false; simp; omega) (hnext _ ?_)))
        rw [if_neg (by omega)] at hst
        omega
    · rw [if_neg (by omega)] at hst
      refine cf (by show eqI e.kind 1 = false; simpa using hk1) (ct hin ?_)
      by_cases hk2 : e.kind = 2
      · refine ct (by show eqI e.kind 2 = true; simpa using hk2) (ct hin (ct hbl ?_))
        by_cases hid : e.id = x.file.id
        · have := hsl hk2
          rw [hid] at this
          refine ct (by show eqI e.id x.file.id = true; simpa using hid) (ct hin (cf (by show neI e.len _ = false; simpa using this) (hnext _ (by omega))))
        · exact cf (by show eqI e.id x.file.id = false; simpa using hid) (hnext _ (by omega))
      · exact cf (by show eqI e.kind 2 = false; simpa using hk2) (hnext _ (by omega))
  · refine cf (by simp; omega) ?_
    have hkl : k = l.length := by omega
    subst hkl
    rw [List.take_length]
    exact hK
theorem lens_law (nn : Bool) (l : List Ev) (hs : ∀ e ∈ l, e.ok) : F5.s FUEL (dl nn (l.map Ev.enc)) = some (db true) := by
  unfold F5.s
  refine bdS works_spec (cf rfl (bdS (few_spec nn l) ?_))
  cases hf : fewB l with
  | false => exact ct rfl rfl
  | true =>
    obtain ⟨hlen, hl⟩ := few_ok hf hs
    refine cf rfl (bdS (all_spec nn l hl (by omega)) ?_)
    rcases Classical.em (¬ (runB l emptyB 0).2.1 = 0) with h0 | h0
    · exact ct (by show neI (runB l emptyB 0).2.1 0 = true; simpa using h0) rfl
    replace h0 := Classical.not_not.1 h0
    refine cf (by show neI (runB l emptyB 0).2.1 0 = false; simpa using h0) ?_
    obtain ⟨b, hr, hb⟩ := len_run hl h0 l.length (Nat.le_refl _)
    rw [List.drop_length, runB] at hr
    rw [hr]
    show goS (F5.st11 FUEL) FUEL ⟨dl nn (l.map Ev.enc), db true, 0, b.enc⟩ _ = _
    have hbl := hb.ok.len
    refine goS_rule (fun t : F5.S11 => ∃ j : Nat, t = ⟨dl nn (l.map Ev.enc), db true, (j : Int), b.enc⟩ ∧ j ≤ b.es.length) (fun t => b.es.length - t.i6.toNat) (fun o => o = some (db true)) ?_ _ _ ⟨0, rfl, by omega⟩ (by simp [FUEL]; omega)
    rintro _ rec ⟨j, rfl, hj⟩ hrec
    simp only [F5.st11]
    have hlb : (b.enc.at 0).elems.length = b.es.length := by
      show (b.es.map En.enc).length = _
      simp
    by_cases h1 : j < b.es.length
    · refine ct (by rw [hlb]; simp; omega) ?_
      refine inner_len nn l hlen b j h1 (fun i h => hb.pos i h h) (fun i h => hb.told i h h) _ _ ?_
      have hx := hb.len _ (List.getElem_mem h1)
      rw [List.take_length] at hx
      have hbox : ix (b.enc.at 0).elems (j : Int).toNat = b.es[j].enc := by
        show ix (b.es.map En.enc) j = _
        rw [ix_map h1]
      refine ct (by rw [hlb]; simp; omega) (cf ?_ (hrec _ ⟨j + 1, ?_, by omega⟩ ?_))
      · rw [hbox]
        show neI b.es[j].len _ = false
        simpa using hx
      · rw [ad64 (by omega) (by omega)]; rfl
      · rw [ad64 (by omega) (by omega)]; simp; omega
    · refine cf (by rw [hlb]; simp; omega) rfl
theorem pure5 : ∀ ds, D.hass ty ds [(.slice 38)] → D.wfs ds → F5.c.run ds = some (.bool true) := by
  intro ds h hw
  obtain ⟨d0, _, rfl, h0, h⟩ := hassC h
  obtain rfl := hass0 h
  simp only [D.wfs] at hw
  obtain ⟨nn, l, rfl, hl⟩ := evs_of h0 hw.1
  exact lens_law nn l hl
end Go.AM.SD
