/- Part 12 of the proof: the abstract machine, what the functions compute, and plain laws over that. -/
import Derived.Test.YtonknblidjpfeaaSt11
set_option linter.all false
set_option linter.unusedSimpArgs false
set_option linter.unusedVariables false
set_option linter.unusedSectionVars false
set_option linter.all false
set_option autoImplicit false
namespace Go.AM.SP
open Go Go.AM
def seqsOf (l : List Sp) : List Int := (l.filter fun p => p.kind == 1 && decide (0 ≤ p.seq)).map Sp.seq
def hi (l : List Sp) : Int := l.foldl (fun h p => maxi h p.seq) 0
theorem seqs_len (l : List Sp) : (seqsOf l).length ≤ l.length := by
  unfold seqsOf; rw [List.length_map]; exact List.length_filter_le _ _
theorem hi_snoc (l : List Sp) (p : Sp) : hi (l ++ [p]) = maxi (hi l) p.seq := by simp [hi, List.foldl_append]
theorem F17_seqs (nn : Bool) (l : List Sp) (hl : l.length ≤ 1000) (K : F17.X4 → Option D) :
    ∃ b, goS (F17.st4 FUEL) FUEL ⟨dl nn (l.map Sp.enc), 0, 0, dl nn (l.map Sp.enc), (nI (dl nn (l.map Sp.enc)).elems.length), 0, false, [], false, [], 0, false, [], 0, false, [], false, [], 0, false, [], 0, false, []⟩ K =
      K (.e0 (dl nn (l.map Sp.enc)) 0 (seqsOf l).length false [] false [] 0 false [] 0 false [] false [] 0 false [] (hi l) b ((seqsOf l).map (D.int .i64))) := by
  have hlen : ∀ k, (seqsOf (l.take k)).length ≤ l.length := by
    intro k
    refine Nat.le_trans (seqs_len _) ?_
    rw [List.length_take]; omega
  refine goS_rule (fun t : F17.S4 => ∃ (k : Nat) (b : Bool), t = ⟨dl nn (l.map Sp.enc), 0, (seqsOf (l.take k)).length, dl nn (l.map Sp.enc), (l.length : Int), (k : Int), false, [], false, [], 0, false, [], 0, false, [], false, [], 0, false, [], hi (l.take k), b, (seqsOf (l.take k)).map (D.int .i64)⟩ ∧ k ≤ l.length) (fun t => l.length - t.i6.toNat)
    (fun R => ∃ b, R = K (.e0 (dl nn (l.map Sp.enc)) 0 (seqsOf l).length false [] false [] 0 false [] 0 false [] false [] 0 false [] (hi l) b ((seqsOf l).map (D.int .i64)))) ?_ _ _ ⟨0, false, by simp [seqsOf, hi], by omega⟩ (by simp [FUEL]; omega)
  rintro _ rec ⟨k, b, rfl, hk⟩ hrec
  simp only [F17.st4]
  by_cases h1 : k < l.length
  · have hx : ix (dl nn (l.map Sp.enc)).elems (k : Int).toNat = l[k].enc := ix_map h1
    have e1 : ltI (k : Int) (l.length : Int) = true := by simp; omega
    have e3 : inb (k : Int) (dl nn (l.map Sp.enc)).elems.length = true := by simp; omega
    have hadd : ad .i64 (k : Int) 1 = ((k + 1 : Nat) : Int) := by rw [ad64 (by omega) (by omega)]; rfl
    have a0 : ((l[k].enc.at 2).at 0).i = l[k].kind := rfl
    have a1 : ((l[k].enc.at 2).at 1) = di l[k].seq := rfl
    have hm : mx ((seqsOf (l.take k)).length + 1) = true := by have := hlen k; simp; omega
    have tk : l.take (k + 1) = l.take k ++ [l[k]] := List.take_succ_eq_append_getElem h1
    have hhi : hi (l.take (k + 1)) = maxi (hi (l.take k)) l[k].seq := by rw [tk, hi_snoc]
    have step : seqsOf (l.take (k + 1)) = seqsOf (l.take k) ++ (if l[k].kind = 1 ∧ 0 ≤ l[k].seq then [l[k].seq] else []) := by
      unfold seqsOf
      rw [tk, List.filter_append, List.map_append]
      congr 1
      by_cases g1 : l[k].kind = 1 <;> by_cases g2 : 0 ≤ l[k].seq <;> simp [g1, g2]
    rw [e1, e3, hx, hadd, a0, a1]
    simp only [cond_true, i_int, hm]
    rw [← hhi]
    have skip : ¬ (l[k].kind = 1 ∧ 0 ≤ l[k].seq) → ∃ b', rec ⟨dl nn (l.map Sp.enc), 0, (seqsOf (l.take k)).length, dl nn (l.map Sp.enc), (l.length : Int), ((k + 1 : Nat) : Int), false, [], false, [], 0, false, [], 0, false, [], false, [], 0, false, [], hi (l.take (k + 1)), b, (seqsOf (l.take k)).map (D.int .i64)⟩ = K (.e0 (dl nn (l.map Sp.enc)) 0 (seqsOf l).length false [] false [] 0 false [] 0 false [] false [] 0 false [] (hi l) b' ((seqsOf l).map (D.int .i64))) := by
      intro hn
      refine hrec _ ⟨k + 1, b, ?_, by omega⟩ (by simp; omega)
      rw [step]; simp [hn]
    by_cases g1 : l[k].kind = 1
    · rw [show eqI l[k].kind 1 = true by simp [g1]]
      simp only [cond_true]
      by_cases g2 : 0 ≤ l[k].seq
      · rw [show geI l[k].seq 0 = true by simp [g2]]
        simp only [cond_true]
        refine hrec _ ⟨k + 1, b || true, ?_, by omega⟩ (by simp; omega)
        rw [step, if_pos ⟨g1, g2⟩, List.drop_zero, show (List.map (D.int .i64) (seqsOf (l.take k))).take (seqsOf (l.take k)).length = List.map (D.int .i64) (seqsOf (l.take k)) from List.take_of_length_le (by simp)]
        simp [ap]
      · rw [show geI l[k].seq 0 = false by simp; omega]
        exact skip (by omega)
    · rw [show eqI l[k].kind 1 = false by simp [g1]]
      exact skip (by simp [g1])
  · have e1 : ltI (k : Int) (l.length : Int) = false := by simp; omega
    rw [e1]
    have hkl : k = l.length := by omega
    subst hkl
    rw [take_all]
    exact ⟨b, rfl⟩
theorem rev_of {xs : List Int} {l : List D} (h1 : l.length = xs.length) (h : ∀ t, (ht : t < xs.length) → ix l t = di xs[xs.length - 1 - t]) : l = xs.reverse.map (D.int .i64) := by
  refine List.ext_getElem (by simp [h1]) ?_
  intro t h2 h3
  have := h t (by omega)
  rw [ix_eq h2] at this
  rw [this]
  simp [List.getElem_reverse]
theorem ix_set_eq {l : List D} {a : Nat} {v : D} (h : a < l.length) : ix (l.set a v) a = v := by
  simp [ix, List.getD_eq_getElem?_getD, List.getElem?_set, h]
theorem F17_rev (b29 b31 b34 b37 b39 b42 b45 : Bool) (l30 l32 l35 l38 l40 l43 : List D) (i33 i36 i41 i44 : Int) (xs : List Int) (hx : xs.length ≤ 1000) (K : F17.X28_1 → Option D) :
    goS (F17.st28_1 FUEL) FUEL ⟨0, xs.length, 0, (sb .i64 (nI xs.length) 1), b29, l30, b31, l32, i33, b34, l35, i36, b37, l38, b39, l40, i41, b42, l43, i44, b45, xs.map (D.int .i64)⟩ K =
      K (.e0 b29 l30 b31 l32 i33 b34 l35 i36 b37 l38 b39 l40 i41 b42 l43 i44 b45 (xs.reverse.map (D.int .i64))) := by
  have hsb : sb .i64 (nI xs.length) 1 = (xs.length : Int) - 1 := sb64 (by simp; omega) (by simp; omega)
  rw [hsb]
  refine goS_rule (fun t : F17.S28_1 => ∃ (a : Nat) (l : List D), t = ⟨0, xs.length, (a : Int), (xs.length : Int) - 1 - a, b29, l30, b31, l32, i33, b34, l35, i36, b37, l38, b39, l40, i41, b42, l43, i44, b45, l⟩ ∧ 2 * a ≤ xs.length + 1 ∧ l.length = xs.length ∧
      ∀ t, (ht : t < xs.length) → ix l t = di (if t < a ∨ xs.length - a ≤ t then xs[xs.length - 1 - t] else xs[t])) (fun t => 1000 - t.i27.toNat)
    (fun R => R = K (.e0 b29 l30 b31 l32 i33 b34 l35 i36 b37 l38 b39 l40 i41 b42 l43 i44 b45 (xs.reverse.map (D.int .i64)))) ?_ _ _ ⟨0, xs.map (D.int .i64), by simp, by omega, by simp, by
      intro t ht
      rw [if_neg (by omega)]
      exact ix_map ht⟩ (by simp [FUEL])
  rintro _ rec ⟨a, l, rfl, ha, hl, hix⟩ hrec
  simp only [F17.st28_1]
  by_cases h1 : (a : Int) < (xs.length : Int) - 1 - a
  · have hj : (xs.length : Int) - 1 - a = ((xs.length - 1 - a : Nat) : Int) := by omega
    rw [hj]
    have e1 : ltI (a : Int) ((xs.length - 1 - a : Nat) : Int) = true := by simp; omega
    have e2 : inb (a : Int) xs.length = true := by simp; omega
    have e3 : inb ((xs.length - 1 - a : Nat) : Int) xs.length = true := by simp; omega
    have hadd : ad .i64 (a : Int) 1 = ((a + 1 : Nat) : Int) := by rw [ad64 (by omega) (by omega)]; rfl
    have hsub : sb .i64 ((xs.length - 1 - a : Nat) : Int) 1 = (xs.length : Int) - 1 - ((a + 1 : Nat) : Int) := by rw [sb64 (by omega) (by omega)]; omega
    rw [e1, e2, e3, hadd, hsub]
    simp only [cond_true, Int.toNat_natCast, Nat.zero_add]
    refine hrec _ ⟨a + 1, _, rfl, by omega, by simp [hl], ?_⟩ (by simp; omega)
    intro t ht
    by_cases g1 : t = xs.length - 1 - a
    · subst g1
      rw [ix_set_eq (by simp [hl]; omega), hix a (by omega), if_neg (by omega), if_pos (by omega)]
      congr 2; omega
    · rw [ix_set_ne (by omega)]
      by_cases g2 : t = a
      · subst g2
        rw [ix_set_eq (by omega), hix _ (by omega), if_neg (by omega), if_pos (by omega)]
      · rw [ix_set_ne (by omega), hix t ht]
        by_cases g3 : t < a ∨ xs.length - a ≤ t
        · rw [if_pos g3, if_pos (by omega)]
        · rw [if_neg g3, if_neg (by omega)]
  · refine cf (by simp; omega) ?_
    rw [rev_of hl]
    intro t ht
    rw [hix t ht]
    by_cases g3 : t < a ∨ xs.length - a ≤ t
    · rw [if_pos g3]
    · rw [if_neg g3]
      congr 2; omega
def Good (l : List Sp) (s : Int) : Prop := ∃ (P : List Sp) (r : Rt), IsParts l s P ∧ F35.s FUEL (dl (!P.isEmpty) (P.map fun p => dS p.text)) = some (D.tup [r.enc, db true]) ∧ holdsB l r.map = true
theorem rt_inj {r r' : Rt} (h : r.enc = r'.enc) : r = r' := by
  obtain ⟨a, m, b, g⟩ := r
  obtain ⟨a', m', b', g'⟩ := r'
  simp only [Rt.enc, da, dl, D.agg.injEq, List.cons.injEq, D.slice.injEq, and_true] at h
  obtain ⟨⟨rfl, h1⟩, rfl, h2⟩ := h
  have i1 : m = m' := by
    refine List.map_inj_right (f := Ey.enc) ?_ |>.1 h1
    intro x y hxy
    obtain ⟨x1, x2, x3, x4⟩ := x
    obtain ⟨y1, y2, y3, y4⟩ := y
    simp [Ey.enc] at hxy
    simp [hxy]
  have i2 : g = g' := by
    refine List.map_inj_right (f := D.int .i64) ?_ |>.1 h2
    intro x y hxy
    simpa using hxy
  rw [i1, i2]
theorem good_of {l : List Sp} {s : Int} {P : List Sp} {r : Rt} (h1 : IsParts l s P) (h2 : F35.s FUEL (dl (!P.isEmpty) (P.map fun p => dS p.text)) = some (D.tup [r.enc, db true])) (h3 : holdsB l r.map = false) : ¬ Good l s := by
  rintro ⟨P', r', g1, g2, g3⟩
  have := parts_uniq h1 g1 (fun _ => rfl)
  subst this
  rw [h2] at g2
  simp at g2
  have := rt_inj g2
  subst this
  rw [h3] at g3; simp at g3
theorem not_good_of {l : List Sp} {s : Int} {P : List Sp} {r : Rt} (h1 : IsParts l s P) (h2 : F35.s FUEL (dl (!P.isEmpty) (P.map fun p => dS p.text)) = some (D.tup [r.enc, db false])) : ¬ Good l s := by
  rintro ⟨P', r', g1, g2, g3⟩
  have := parts_uniq h1 g1 (fun _ => rfl)
  subst this
  rw [h2] at g2
  simp at g2
structure Hit (l : List Sp) (s : Int) (P : List Sp) (r : Rt) : Prop where
  parts : IsParts l s P
  len : P.length ≤ l.length
  get : F35.s FUEL (dl (!P.isEmpty) (P.map fun p => dS p.text)) = some (D.tup [r.enc, db true])
  holds : holdsB l r.map = true
  small : r.map.length ≤ 400
  smallg : r.gone.length ≤ 100
theorem F17_find (nn : Bool) (l : List Sp) (hl : l.length ≤ 1000) (ht : ∀ x ∈ l, x.text.size ≤ 230) (b52 b54 b57 b60 b62 b65 b68 : Bool) (l53 l55 l58 l61 l63 l66 : List D) (i56 i59 i64 i67 : Int)
    (xs : List Int) (hxs : xs.length ≤ 1000) (row : List D) (hrow : ∀ k, (hk : k < xs.length) → ix row k = di xs[k]) (K : F17.X13 → Option D) :
    (∃ (k : Nat) (hk : k < xs.length) (P : List Sp) (r : Rt), Hit l xs[k] P r ∧ (∀ j, (hj : j < k) → ¬ Good l (xs[j]'(by omega))) ∧
      goS (F17.st13 FUEL) FUEL ⟨dl nn (l.map Sp.enc), 0, xs.length, (xs.length : Int), 0, b52, l53, b54, l55, i56, b57, l58, i59, b60, l61, b62, l63, i64, b65, l66, i67, b68, row⟩ K = K (.e0 0 k i67 b68 row (wholeR P r true))) ∨
    ((∀ j, (hj : j < xs.length) → ¬ Good l xs[j]) ∧
      goS (F17.st13 FUEL) FUEL ⟨dl nn (l.map Sp.enc), 0, xs.length, (xs.length : Int), 0, b52, l53, b54, l55, i56, b57, l58, i59, b60, l61, b62, l63, i64, b65, l66, i67, b68, row⟩ K = K (.e1 b52 l53 b54 l55 i56 b57 l58 i59 b60 l61 b62 l63 i64 b65 l66 i67 b68 row)) := by
  refine goS_rule (fun t : F17.S13 => ∃ (k : Nat), t = ⟨dl nn (l.map Sp.enc), 0, xs.length, (xs.length : Int), (k : Int), b52, l53, b54, l55, i56, b57, l58, i59, b60, l61, b62, l63, i64, b65, l66, i67, b68, row⟩ ∧ k ≤ xs.length ∧ (∀ j, (hj : j < xs.length) → j < k → ¬ Good l xs[j])) (fun t => 1000 - t.i51.toNat)
    (fun R => (∃ (k : Nat) (hk : k < xs.length) (P : List Sp) (r : Rt), Hit l xs[k] P r ∧ (∀ j, (hj : j < k) → ¬ Good l (xs[j]'(by omega))) ∧ R = K (.e0 0 k i67 b68 row (wholeR P r true))) ∨
      ((∀ j, (hj : j < xs.length) → ¬ Good l xs[j]) ∧ R = K (.e1 b52 l53 b54 l55 i56 b57 l58 i59 b60 l61 b62 l63 i64 b65 l66 i67 b68 row))) ?_ _ _ ⟨0, rfl, by omega, by intro j _ h; omega⟩ (by simp [FUEL])
  rintro _ rec ⟨k, rfl, hk, hno⟩ hrec
  simp only [F17.st13]
  by_cases h1 : k < xs.length
  · have e1 : ltI (k : Int) (xs.length : Int) = true := by simp; omega
    have e2 : inb (k : Int) xs.length = true := by simp; omega
    have hadd : ad .i64 (k : Int) 1 = ((k + 1 : Nat) : Int) := by rw [ad64 (by omega) (by omega)]; rfl
    have hx := hrow k h1
    obtain ⟨P, r, ok, hP, hPl, hget, hm, hg, hw⟩ := whole_ok nn l xs[k] hl ht
    rw [e1, e2, hadd, Int.toNat_natCast, Nat.zero_add, hx]
    simp only [cond_true, i_int, hw, bd]
    have next : ¬ Good l xs[k] → ∀ j, (hj : j < xs.length) → j < k + 1 → ¬ Good l xs[j] := by
      intro hn j hj hjk
      by_cases g : j < k
      · exact hno j hj g
      · have : j = k := by omega
        subst this; exact hn
    cases ok
    · exact hrec _ ⟨k + 1, rfl, by omega, next (not_good_of hP hget)⟩ (by simp; omega)
    · have w2 : (wholeR P r true).at 2 = db true := rfl
      have w0 : (wholeR P r true).at 0 = r.enc := rfl
      rw [w2, w0, scan_holds nn l r (by omega) (by omega)]
      simp only [b_bool, cond_true]
      cases hh : holdsB l r.map
      · exact hrec _ ⟨k + 1, rfl, by omega, next (good_of hP hget hh)⟩ (by simp; omega)
      · exact .inl ⟨k, h1, P, r, ⟨hP, hPl, hget, hh, hm, hg⟩, fun j hj => hno j (by omega) hj, rfl⟩
  · have e1 : ltI (k : Int) (xs.length : Int) = false := by simp; omega
    rw [e1]
    exact .inr ⟨fun j hj => hno j hj (by omega), rfl⟩
end Go.AM.SP
set_option linter.all false
set_option autoImplicit false
namespace Go.AM.SP
open Go Go.AM
theorem ddg_desc : ∀ (xs : List Int) (p : Int), (p :: xs).Pairwise (· ≥ ·) → (p :: ddg p xs).Pairwise (· > ·)
  | [], p, _ => by simp [ddg]
  | y :: ys, p, h => by
    unfold ddg
    rw [List.pairwise_cons] at h
    by_cases hy : y = p
    · rw [if_pos hy]
      refine ddg_desc ys p ?_
      rw [List.pairwise_cons] at h ⊢
      exact ⟨fun a ha => h.1 a (List.mem_cons_of_mem _ ha), h.2.2⟩
    · rw [if_neg hy]
      have ih := ddg_desc ys y h.2
      refine List.pairwise_cons.2 ⟨?_, ih⟩
      intro a ha
      have hp : p > y := by have := h.1 y (by simp); omega
      rcases List.mem_cons.1 ha with rfl | ha'
      · exact hp
      · have := (List.pairwise_cons.1 ih).1 a ha'; omega
theorem dd_desc {xs : List Int} (h : xs.Pairwise (· ≥ ·)) : (dd xs).Pairwise (· > ·) := by
  cases xs with
  | nil => exact .nil
  | cons y ys => exact ddg_desc ys y h
def NewP (l : List Sp) (R : Option D) : Prop := ∃ (f : Fd) (ok : Bool), R = some (D.tup [f.enc, db ok]) ∧ f.high = hi l ∧
  (ok = true → Hit l f.seq f.parts f.root ∧ f.pn = !f.parts.isEmpty ∧ f.seq ∈ seqsOf l ∧ ∀ s ∈ seqsOf l, f.seq < s → ¬ Good l s) ∧
  (ok = false → f = ⟨noRt, 0, false, [], hi l⟩ ∧ ∀ s ∈ seqsOf l, ¬ Good l s)
def newD (l : List Sp) : List Int := dd (isort (seqsOf l)).reverse
theorem newD_desc (l : List Sp) : (newD l).Pairwise (· > ·) := by
  refine dd_desc ?_
  rw [List.pairwise_reverse]
  exact (isort_sorted _).imp (fun h => h)
theorem newD_mem (l : List Sp) (s : Int) : s ∈ newD l ↔ s ∈ seqsOf l := by
  rw [newD, dd_mem, List.mem_reverse, (isort_perm _).mem_iff]
theorem F17_end (nn : Bool) (l : List Sp) (hl : l.length ≤ 1000) (ht : ∀ x ∈ l, x.text.size ≤ 230) (b52 b54 b57 b68 : Bool) (l53 l55 l58 : List D) (i56 i59 : Int)
    (n : Nat) (hn : n = (newD l).length) (row : List D) (hrow : ∀ k, (hk : k < (newD l).length) → ix row k = di (newD l)[k]) (K : F17.X13 → Option D)
    (k0 : ∀ n48 i51 i67 b68 l69 r70, K (.e0 n48 i51 i67 b68 l69 r70) = some (D.tup [(da [(r70.at 0), (ix l69 (n48 + i51.toNat)), (r70.at 1), (di i67)]), (db true)]))
    (k1 : ∀ b52 l53 b54 l55 i56 b57 l58 i59 b60 l61 b62 l63 i64 b65 l66 i67 b68 l69, K (.e1 b52 l53 b54 l55 i56 b57 l58 i59 b60 l61 b62 l63 i64 b65 l66 i67 b68 l69) = some (D.tup [(da [(da [(dl b60 l61), (dl b62 l63)]), (di i64), (dl b65 l66), (di i67)]), (db false)])) :
    NewP l (goS (F17.st13 FUEL) FUEL ⟨dl nn (l.map Sp.enc), 0, n, (nI n), 0, b52, l53, b54, l55, i56, b57, l58, i59, false, [], false, [], 0, false, [], hi l, b68, row⟩ K) := by
  subst hn
  have hlen : (newD l).length ≤ 1000 := by
    have h1 := dd_len (isort (seqsOf l)).reverse
    rw [List.length_reverse, isort_len] at h1
    have h2 := seqs_len l
    show (dd (isort (seqsOf l)).reverse).length ≤ 1000
    omega
  have hd := newD_desc l
  rcases F17_find nn l hl ht b52 b54 b57 false false false b68 l53 l55 l58 [] [] [] i56 i59 0 (hi l) (newD l) hlen row hrow K with ⟨k, hk, P, r, hit, hno, e⟩ | ⟨hno, e⟩
  · refine ⟨⟨r, (newD l)[k], !P.isEmpty, P, hi l⟩, true, ?_, rfl, fun _ => ⟨hit, rfl, (newD_mem l _).1 (List.getElem_mem _), ?_⟩, by simp⟩
    · refine e.trans ((k0 _ _ _ _ _ _).trans ?_)
      rw [Int.toNat_natCast, Nat.zero_add, hrow k hk]
      rfl
    · intro s hs hlt
      obtain ⟨j, hj, rfl⟩ := List.getElem_of_mem ((newD_mem l s).2 hs)
      by_cases g : j < k
      · exact hno j g
      · exfalso
        by_cases g2 : j = k
        · subst g2; simp at hlt
        · have := List.pairwise_iff_getElem.1 hd k j hk hj (by omega)
          simp at hlt; omega
  · refine ⟨⟨noRt, 0, false, [], hi l⟩, false, ?_, rfl, by simp, fun _ => ⟨rfl, ?_⟩⟩
    · refine e.trans ((k1 _ _ _ _ _ _ _ _ _ _ _ _ _ _ _ _ _ _).trans ?_)
      rfl
    · intro s hs
      obtain ⟨j, hj, rfl⟩ := List.getElem_of_mem ((newD_mem l s).2 hs)
      exact hno j hj
theorem F17_compact (h : Int) (b : Bool) {xs : List Int} (hx : xs.length ≤ 1000) (h2 : 1 ≤ xs.length) (K : F17.X29_4 → Option D) :
    (∃ (a : Nat) (l : List D), a ≤ xs.length ∧ l.length = xs.length + ([] : List D).length ∧ l.take a = (dd xs).map (D.int .i64) ∧ goS (F17.st29_4 FUEL) FUEL ⟨0, xs.length, 1, false, [], false, [], 0, false, [], 0, false, [], false, [], 0, false, [], h, b, xs.map (D.int .i64) ++ []⟩ K = K (.e0 0 xs.length (a : Nat) false [] false [] 0 false [] 0 false [] false [] 0 false [] h b l)) ∨
    (dd xs = xs ∧ goS (F17.st29_4 FUEL) FUEL ⟨0, xs.length, 1, false, [], false, [], 0, false, [], 0, false, [], false, [], 0, false, [], h, b, xs.map (D.int .i64) ++ []⟩ K = K (.e1 0 xs.length false [] false [] 0 false [] 0 false [] false [] 0 false [] h b (xs.map (D.int .i64) ++ []))) :=
  compact_out (st9 := F17.st29_9 FUEL) (st := F17.st29_4 FUEL) (mk9 := fun n1 n2 i n3 n4 j l => ⟨n1, n2, i, n3, n4, j, false, [], false, [], 0, false, [], 0, false, [], false, [], 0, false, [], h, b, l⟩) (ex9 := fun n m i l => .e0 n m i false [] false [] 0 false [] 0 false [] false [] 0 false [] h b l) (mk := fun n1 n2 i l => ⟨n1, n2, i, false, [], false, [], 0, false, [], 0, false, [], false, [], 0, false, [], h, b, l⟩) (ex0 := fun n m i l => .e0 n m i false [] false [] 0 false [] 0 false [] false [] 0 false [] h b l) (ex1 := fun n m l => .e1 n m false [] false [] 0 false [] 0 false [] false [] 0 false [] h b l)
    (fun _ _ _ _ _ _ _ _ _ => rfl) (fun K => ⟨_, fun _ _ _ _ _ => rfl, fun _ _ _ _ => rfl⟩) (by omega) (by simp [FUEL]) [] h2 K
theorem newest_ok (nn : Bool) (l : List Sp) (hl : l.length ≤ 1000) (ht : ∀ x ∈ l, x.text.size ≤ 230) : NewP l (F17.s FUEL (dl nn (l.map Sp.enc))) := by
  unfold F17.s
  obtain ⟨b, e⟩ := F17_seqs nn l (by omega) _
  rw [e]
  have hA := seqs_len l
  refine ctP (by simp; omega) ?_
  have hrow : ap (ap (((seqsOf l).map (D.int .i64)).take 0) (sortD ((((seqsOf l).map (D.int .i64)).drop 0).take (seqsOf l).length))) (((seqsOf l).map (D.int .i64)).drop (0 + (seqsOf l).length)) = (isort (seqsOf l)).map (D.int .i64) := by
    rw [List.drop_zero, show ((seqsOf l).map (D.int .i64)).take (seqsOf l).length = (seqsOf l).map (D.int .i64) from List.take_of_length_le (by simp), sortD_ints, show ((seqsOf l).map (D.int .i64)).drop (0 + (seqsOf l).length) = [] from List.drop_of_length_le (by simp)]
    simp [ap]
  rw [hrow]
  have hS : (seqsOf l).length = (isort (seqsOf l)).length := (isort_len _).symm
  rw [hS]
  have hrev := fun K => F17_rev false false false false false false b [] [] [] [] [] [] 0 0 0 (hi l) (isort (seqsOf l)) (by omega) K
  rw [hrev]
  have hR : (isort (seqsOf l)).length = (isort (seqsOf l)).reverse.length := by simp
  rw [hR]
  by_cases h2 : (isort (seqsOf l)).reverse.length < 2
  · refine ctP (by simp at h2 ⊢; omega) ?_
    have hD : newD l = (isort (seqsOf l)).reverse := dd_short h2
    refine F17_end nn l hl ht _ _ _ _ _ _ _ _ _ _ (by rw [hD]) _ ?_ _ (fun _ _ _ _ _ _ => rfl) (fun _ _ _ _ _ _ _ _ _ _ _ _ _ _ _ _ _ _ => rfl)
    intro k hk
    rw [← hD]
    exact ix_map hk
  · refine cfP (by simp at h2 ⊢; omega) ?_
    have happ : (isort (seqsOf l)).reverse.map (D.int .i64) = (isort (seqsOf l)).reverse.map (D.int .i64) ++ [] := by simp
    rw [happ]
    rcases F17_compact (hi l) b (xs := (isort (seqsOf l)).reverse) (by simp; omega) (by omega) _ with ⟨a, row, g1, g2, g3, g4⟩ | ⟨g1, g2⟩
    · rw [g4]
      have ha : a = (newD l).length := by
        have := congrArg List.length g3
        simp at this
        rw [newD, ← this]; simp at g2 g1; omega
      simp only [Nat.zero_add, Nat.sub_zero, Int.toNat_natCast]
      refine F17_end nn l hl ht _ _ _ _ _ _ _ _ _ _ ha _ ?_ _ (fun _ _ _ _ _ _ => rfl) (fun _ _ _ _ _ _ _ _ _ _ _ _ _ _ _ _ _ _ => rfl)
      intro k hk
      have h9 := ix_map' (xs := newD l) (tl := rp ((isort (seqsOf l)).reverse.length - a) (di 0) ++ row.drop (a + ((isort (seqsOf l)).reverse.length - a))) hk
      refine Eq.trans (congrArg (fun z => ix z k) ?_) h9
      rw [g3]
      unfold ap
      rw [List.append_assoc]; rfl
    · rw [g2]
      refine F17_end nn l hl ht _ _ _ _ _ _ _ _ _ _ (by rw [newD, g1]) _ ?_ _ (fun _ _ _ _ _ _ => rfl) (fun _ _ _ _ _ _ _ _ _ _ _ _ _ _ _ _ _ _ => rfl)
      intro k hk
      have hD : newD l = (isort (seqsOf l)).reverse := g1
      rw [← hD]
      exact ix_map' hk
end Go.AM.SP
set_option linter.all false
set_option autoImplicit false
namespace Go.AM.SP
open Go Go.AM
end Go.AM.SP
set_option linter.all false
set_option autoImplicit false
namespace Go.AM.SP
open Go Go.AM
def eyB (x y : Ey) : Bool := decide (x.logic = y.logic ∧ x.owner = y.owner ∧ x.block = y.block ∧ x.at_ = y.at_)
theorem eqv_ey (x y : Ey) : D.eqv ty eqDepth x.enc y.enc (.struct [3, 3, 3, 3]) = some (eyB x y) := by
  have t3 : ty 3 = .int .i64 := rfl
  show eqvs (D.eqv ty 15) [di x.logic, di x.owner, di x.block, di x.at_] [di y.logic, di y.owner, di y.block, di y.at_] [ty 3, ty 3, ty 3, ty 3] = _
  rw [t3]
  simp only [eqvs, eqv_int 14, eyB]
  by_cases h1 : x.logic = y.logic <;> by_cases h2 : x.owner = y.owner <;> by_cases h3 : x.block = y.block <;> by_cases h4 : x.at_ = y.at_ <;> simp [h1, h2, h3, h4]
theorem same_map (b b' : Bool) (m : List Ey) (hm : m.length ≤ 1048576) : F31.s FUEL (dl b (m.map Ey.enc)) (dl b' (m.map Ey.enc)) = some (db true) := by
  unfold F31.s
  refine cf (by simp) ?_
  refine goS_rule (fun t : F31.S4 => ∃ k : Nat, t = ⟨dl b (m.map Ey.enc), dl b' (m.map Ey.enc), (m.length : Int), (k : Int)⟩ ∧ k ≤ m.length) (fun t => m.length - t.i4.toNat) (fun R => R = some (db true)) ?_ _ _ ⟨0, by simp, by omega⟩ (by simp [FUEL]; omega)
  rintro _ rec ⟨k, rfl, hk⟩ hrec
  simp only [F31.st4]
  by_cases h1 : k < m.length
  · have hadd : ad .i64 (k : Int) 1 = ((k + 1 : Nat) : Int) := by rw [ad64 (by omega) (by omega)]; rfl
    have x1 : ix (dl b (m.map Ey.enc)).elems (k : Int).toNat = m[k].enc := ix_map h1
    have x2 : ix (dl b' (m.map Ey.enc)).elems (k : Int).toNat = m[k].enc := ix_map h1
    rw [x1, x2, eqv_ey, hadd]
    refine ct (by simp; omega) (ct (by simp; omega) (ct (by simp; omega) ?_))
    have : eyB m[k] m[k] = true := by simp [eyB]
    rw [this]
    refine bdS rfl (cf rfl ?_)
    exact hrec _ ⟨k + 1, rfl, by omega⟩ (by simp; omega)
  · exact cf (by simp; omega) rfl
theorem hi_ge (l e : List Sp) : hi l ≤ hi (l ++ e) := by
  have key : ∀ (e : List Sp) (h : Int), h ≤ e.foldl (fun h p => maxi h p.seq) h := by
    intro e
    induction e with
    | nil => intro h; exact Int.le_refl _
    | cons p e ih =>
      intro h
      refine Int.le_trans ?_ (ih (maxi h p.seq))
      unfold maxi; split <;> omega
  simp only [hi, List.foldl_append]
  exact key e _
theorem same_gone (b b' : Bool) (g : List Int) (hm : g.length ≤ 1048576) : F32.s FUEL (dl b (g.map (D.int .i64))) (dl b' (g.map (D.int .i64))) = some (db true) := by
  unfold F32.s
  refine cf (by simp) ?_
  refine goS_rule (fun t : F32.S4 => ∃ k : Nat, t = ⟨dl b (g.map (D.int .i64)), dl b' (g.map (D.int .i64)), (g.length : Int), (k : Int)⟩ ∧ k ≤ g.length) (fun t => g.length - t.i4.toNat) (fun R => R = some (db true)) ?_ _ _ ⟨0, by simp, by omega⟩ (by simp [FUEL]; omega)
  rintro _ rec ⟨k, rfl, hk⟩ hrec
  simp only [F32.st4]
  by_cases h1 : k < g.length
  · have hadd : ad .i64 (k : Int) 1 = ((k + 1 : Nat) : Int) := by rw [ad64 (by omega) (by omega)]; rfl
    have x1 : ix (dl b (g.map (D.int .i64))).elems (k : Int).toNat = di g[k] := ix_map h1
    have x2 : ix (dl b' (g.map (D.int .i64))).elems (k : Int).toNat = di g[k] := ix_map h1
    rw [x1, x2, hadd]
    refine ct (by simp; omega) (ct (by simp; omega) (ct (by simp; omega) (cf (by simp) ?_)))
    exact hrec _ ⟨k + 1, rfl, by omega⟩ (by simp; omega)
  · exact cf (by simp; omega) rfl
theorem same_ok (r r' : Rt) (h1 : r.map = r'.map) (h2 : r.gone = r'.gone) (hm : r.map.length ≤ 1048576) (hg : r.gone.length ≤ 1048576) : F20.s FUEL r.enc r'.enc = some (db true) := by
  unfold F20.s
  have a0 : r.enc.at 0 = dl r.mn (r.map.map Ey.enc) := rfl
  have a1 : r.enc.at 1 = dl r.gn (r.gone.map (D.int .i64)) := rfl
  have b0 : r'.enc.at 0 = dl r'.mn (r.map.map Ey.enc) := by rw [h1]; rfl
  have b1 : r'.enc.at 1 = dl r'.gn (r.gone.map (D.int .i64)) := by rw [h2]; rfl
  rw [a0, a1, b0, b1]
  exact bdS (same_map _ _ _ hm) (ct rfl (bdS (same_gone _ _ _ hg) rfl))
end Go.AM.SP
set_option linter.all false
set_option autoImplicit false
namespace Go.AM.SP
open Go Go.AM
def tD (t : List UInt8) : D := dS (bs t)
def partSp (seq blk : Int) (i : Nat) (t : List UInt8) : Sp := ⟨blk, i, 1, seq, 0, i, bs t⟩
def partsOf (seq blk : Int) (T : List (List UInt8)) : List Sp := (List.range T.length).map fun i => partSp seq blk i (T.getD i [])
theorem partsOf_len (seq blk : Int) (T : List (List UInt8)) : (partsOf seq blk T).length = T.length := by simp [partsOf]
theorem partsOf_at (seq blk : Int) (T : List (List UInt8)) (i : Nat) (h : i < (partsOf seq blk T).length) : (partsOf seq blk T)[i] = partSp seq blk i (T.getD i []) := by simp [partsOf]
theorem parts_ok (p0 : D) (seq blk room : Int) (b : Bool) (T : List (List UInt8)) (h : F30.s FUEL p0 room = some (.slice b (T.map tD))) (hT : T.length ≤ 1048576) :
    F19.s FUEL p0 seq blk room = some (dl (decide (0 < T.length)) ((partsOf seq blk T).map Sp.enc)) := by
  unfold F19.s
  refine bdS h ?_
  refine goS_rule (fun t : F19.S4 => ∃ k : Nat, t = ⟨seq, blk, 0, k, 0, T.length, (k : Int), p0, b, T.map tD, decide (0 < k), ((partsOf seq blk T).take k).map Sp.enc⟩ ∧ k ≤ T.length) (fun t => T.length - t.n5) (fun R => R = some (dl (decide (0 < T.length)) ((partsOf seq blk T).map Sp.enc))) ?_ _ _ ⟨0, by simp, by omega⟩ (by simp [FUEL]; omega)
  rintro _ rec ⟨k, rfl, hk⟩ hrec
  simp only [F19.st4]
  have hpl := partsOf_len seq blk T
  by_cases h1 : k < T.length
  · have hadd : ad .i64 (k : Int) 1 = ((k + 1 : Nat) : Int) := by rw [ad64 (by omega) (by omega)]; rfl
    have hx : ix (T.map tD) (0 + (k : Int).toNat) = tD T[k] := by rw [Int.toNat_natCast, Nat.zero_add]; exact ix_map h1
    refine ct (by simp; omega) (ct (by simp; omega) (ct (by simp; omega) ?_))
    rw [hadd, hx]
    refine hrec _ ⟨k + 1, ?_, by omega⟩ (by simp; omega)
    rw [List.drop_zero, show (((partsOf seq blk T).take k).map Sp.enc).take k = ((partsOf seq blk T).take k).map Sp.enc from List.take_of_length_le (by rw [List.length_map, List.length_take]; omega)]
    rw [List.take_succ_eq_append_getElem (by omega), List.map_append, partsOf_at]
    have : T.getD k [] = T[k] := by rw [List.getD_eq_getElem?_getD, List.getElem?_eq_getElem h1]; rfl
    rw [this]
    simp [ap]
    rfl
  · refine cf (by simp; omega) ?_
    have hkl : k = T.length := by omega
    subst hkl
    have htk : (partsOf seq blk T).take T.length = partsOf seq blk T := List.take_of_length_le (by omega)
    rw [htk]
    refine ct (by simp [hpl]) rfl
theorem chunk_app (n : Nat) (S : List UInt8) (k : Nat) : S.take (k * n) ++ chunk n S k = S.take ((k + 1) * n) := by
  unfold chunk
  rw [Nat.succ_mul, List.take_add]
theorem chunk_len (n : Nat) (S : List UInt8) (k : Nat) : (chunk n S k).length = min n (S.length - k * n) := by
  unfold chunk; rw [List.length_take, List.length_drop]
theorem head_ok (n : Nat) (S : List UInt8) (k : Nat) (hk : k ≤ 1000) (hm : manyC S.length n ≤ 1000) (hn : n ≤ 1000) :
    F78.s FUEL (bs (ptext n S k)) 2 = some (D.tup [dl true [dn k, dn (manyC S.length n)], dS (bs (chunk n S k)), db true]) := by
  have h := gnums_ok [k, manyC S.length n] (chunk n S k) (by simp) (by
    intro x hx
    simp at hx
    rcases hx with rfl | rfl <;> simp only [big] <;> omega) (by rw [chunk_len]; omega)
  have e : numsL [k, manyC S.length n] ++ chunk n S k = ptext n S k := by simp [numsL, ptext]
  rw [e] at h
  exact h
theorem whole_parts (nn : Bool) (n : Nat) (S : List UInt8) (hn : 2 ≤ n) (hn2 : n ≤ 218) (hS1 : 1 ≤ S.length) (hS : S.length ≤ 1000) :
    F50.s FUEL (dl nn ((ptexts n S).map tD)) = some (D.tup [dS (bs S), dn (min n S.length), db true]) := by
  unfold F50.s
  have hml := many_le (len := S.length) (n := n) (by omega)
  have hmpos := (many_lt (len := S.length) (n := n) (by omega) 0).2 (by omega)
  have hend := many_lt (len := S.length) (n := n) (by omega) (manyC S.length n)
  have hhead := fun k (hk : k ≤ 1000) => head_ok n S k hk (by omega) (by omega)
  have hiff := many_lt (len := S.length) (n := n) (by omega)
  have hTl : (ptexts n S).length = manyC S.length n := by simp [ptexts]
  have hTi : ∀ k, (hk : k < (ptexts n S).length) → (ptexts n S)[k] = ptext n S k := by intro k hk; simp [ptexts]
  generalize hm : manyC S.length n = m at *
  generalize hT : ptexts n S = T at *
  refine goS_rule (fun t : F50.S3 => ∃ k : Nat, t = ⟨dl nn (T.map tD), dS (bs (S.take (k * n))), dn (if k = 0 then 0 else min n S.length) |>.i, dl nn (T.map tD), (m : Int), (k : Int)⟩ ∧ k ≤ m) (fun t => m - t.i16.toNat) (fun R => R = some (D.tup [dS (bs S), dn (min n S.length), db true])) ?_ _ _ ⟨0, by simp [hTl, dn], by omega⟩ (by simp [FUEL]; omega)
  rintro _ rec ⟨k, rfl, hk⟩ hrec
  simp only [F50.st3]
  by_cases h1 : k < m
  · have h2 := (hiff k).1 h1
    have hadd : ad .i64 (k : Int) 1 = ((k + 1 : Nat) : Int) := by rw [ad64 (by omega) (by omega)]; rfl
    have hx : ix (dl nn (T.map tD)).elems (k : Int).toNat = tD (ptext n S k) := by
      rw [Int.toNat_natCast]; exact (ix_map (by omega)).trans (by rw [hTi])
    have hcl := chunk_len n S k
    have hcat : cat (dS (bs (S.take (k * n)))).s (dS (bs (chunk n S k))).s = some (dS (bs (S.take ((k + 1) * n)))) := by
      simp only [s_str]
      rw [catS (by rw [bs_size, bs_size, List.length_take]; omega), bs_app, chunk_app]
    have hlen : nI (dl nn (T.map tD)).elems.length = (m : Int) := by simp [hTl]
    have hcs : nI (dS (bs (chunk n S k))).s.size = ((min n (S.length - k * n) : Nat) : Int) := by simp only [s_str, bs_size, nI_eq, hcl]
    rw [hx, hadd]
    refine ct (by simp; omega) (ct (by simp [hTl]; omega) (bdS (hhead k (by omega)) (cf rfl (ct rfl (cf ?_ (ct rfl (cf ?_ ?_)))))))
    · show neI (k : Int) (k : Int) = false
      simp
    · rw [hlen]; show neI (m : Int) (m : Int) = false; simp
    · rw [hlen]
      show cond (eqI (k : Int) 0) (bd (cat (dS (bs (S.take (k * n)))).s (dS (bs (chunk n S k))).s) fun r18 => rec ⟨dl nn (T.map tD), r18, nI (dS (bs (chunk n S k))).s.size, dl nn (T.map tD), (m : Int), ((k + 1 : Nat) : Int)⟩) _ = _
      rw [hcat, hcs]
      have next : ∀ lg : Int, lg = (dn (min n S.length)).i → rec ⟨dl nn (T.map tD), dS (bs (S.take ((k + 1) * n))), lg, dl nn (T.map tD), (m : Int), ((k + 1 : Nat) : Int)⟩ = some (D.tup [dS (bs S), dn (min n S.length), db true]) := by
        rintro lg rfl
        exact hrec _ ⟨k + 1, by simp, by omega⟩ (by simp; omega)
      by_cases hk0 : k = 0
      · subst hk0
        refine ct rfl (next _ ?_)
        simp [dn]
      · have hkn : n ≤ k * n := by
          have := Nat.mul_le_mul_right n (show 1 ≤ k by omega); omega
        have hlg : (dn (if k = 0 then 0 else min n S.length)).i = (n : Int) := by
          rw [if_neg hk0]; simp only [dn, i_int]; omega
        rw [hlg]
        have hnx : (n : Int) = (dn (min n S.length)).i := by simp only [dn, i_int]; omega
        have hsb : sb .i64 (m : Int) 1 = ((m - 1 : Nat) : Int) := by rw [sb64 (by omega) (by omega)]; omega
        refine cf (by simp [hk0]) ?_
        show cond (gtI (nI (dS (bs (chunk n S k))).s.size) (n : Int)) _ (cond (eqI (nI (dS (bs (chunk n S k))).s.size) 0) _ (cond (ltI (k : Int) (sb .i64 (m : Int) 1)) (cond (ltI (nI (dS (bs (chunk n S k))).s.size) (n : Int)) _ (bd (cat (dS (bs (S.take (k * n)))).s (dS (bs (chunk n S k))).s) fun r19 => _)) (bd (cat (dS (bs (S.take (k * n)))).s (dS (bs (chunk n S k))).s) fun r20 => _))) = _
        rw [hcat, hcs, hsb]
        refine cf (by simp; omega) (cf (by simp; omega) ?_)
        by_cases h3 : k + 1 < m
        · have h4 := (hiff (k + 1)).1 h3
          rw [Nat.succ_mul] at h4
          exact ct (by simp; omega) (cf (by simp; omega) (next _ hnx))
        · exact cf (by simp; omega) (next _ hnx)
  · have hkm : k = m := by omega
    subst hkm
    refine cf (by simp) ?_
    rw [if_neg (by omega), List.take_of_length_le (by omega)]
    rfl
theorem gone_loop (g : List Nat) (hg : g.length ≤ 100) (h : ∀ x ∈ g, x ≤ big) (b9 b11 b13 b15 : Bool) (l10 l12 l14 l16 : List D) (n1 n2 : Nat) (K : F35.X53_6 → Option D) :
    goS (F35.st53_6 FUEL) FUEL ⟨dS (bs (numsL g)), 1, 0, 0, dn g.length, 0, b9, l10, b11, l12, n1, n2, b13, l14, b15, l16, false, []⟩ K = K (.e1 (dS (bs [])) 0 g.length b9 l10 b11 l12 n1 n2 b13 l14 b15 l16 (decide (0 < g.length)) (g.map dn)) := by
  refine goS_rule (fun t : F35.S53_6 => ∃ k : Nat, t = ⟨dS (bs (numsL (g.drop k))), 1, 0, k, dn g.length, (k : Int), b9, l10, b11, l12, n1, n2, b13, l14, b15, l16, decide (0 < k), (g.take k).map dn⟩ ∧ k ≤ g.length) (fun t => g.length - t.n25) (fun R => R = K (.e1 (dS (bs [])) 0 g.length b9 l10 b11 l12 n1 n2 b13 l14 b15 l16 (decide (0 < g.length)) (g.map dn))) ?_ _ _ ⟨0, by simp, by omega⟩ (by simp [FUEL]; omega)
  rintro _ rec ⟨k, rfl, hk⟩ hrec
  simp only [F35.st53_6]
  by_cases h1 : k < g.length
  · have hadd : ad .i64 (k : Int) 1 = ((k + 1 : Nat) : Int) := by rw [ad64 (by omega) (by omega)]; rfl
    have hdr : g.drop k = g[k] :: g.drop (k + 1) := List.drop_eq_getElem_cons h1
    have hlen := nums_len (l := g.drop (k + 1)) (fun x hx => h x (List.mem_of_mem_drop hx))
    rw [List.length_drop] at hlen
    have e := gnums_ok [g[k]] (numsL (g.drop (k + 1))) (by simp) (by
      intro x hx
      rw [List.mem_singleton] at hx
      rw [hx]; exact h _ (List.getElem_mem _)) (by omega)
    have e2 : numsL [g[k]] ++ numsL (g.drop (k + 1)) = numsL (g.drop k) := by
      rw [hdr]; simp only [numsL, List.flatMap_cons, List.flatMap_nil, List.append_nil]
    rw [e2] at e
    have e3 : F54.s FUEL (dl (!([g[k]] : List Nat).isEmpty) (([g[k]] : List Nat).map dn)) = some (dn g[k]) := rfl
    refine ct (by simp [dn]; omega) (bdS (x := D.tup [dl (!([g[k]] : List Nat).isEmpty) (([g[k]] : List Nat).map dn), dS (bs (numsL (g.drop (k + 1)))), db true]) e (cf rfl (bdS (x := dn g[k]) e3 (ct (by simp; omega) ?_))))
    rw [hadd]
    refine hrec _ ⟨k + 1, ?_, by omega⟩ (by simp; omega)
    rw [List.drop_zero, show ((g.take k).map dn).take k = (g.take k).map dn from List.take_of_length_le (by rw [List.length_map, List.length_take]; omega), List.take_succ_eq_append_getElem h1, List.map_append]
    simp [ap]
  · have hkl : k = g.length := by omega
    subst hkl
    refine cf (by simp [dn]) ?_
    rw [take_all, List.drop_of_length_le (Nat.le_refl _)]
    rfl
theorem map_loop (S : ByteArray) (b9 b11 b13 b15 : Bool) (l10 l12 l14 l16 : List D) (K : F35.X51_6 → Option D) :
    goS (F35.st51_6 FUEL) FUEL ⟨dS S, 4, 0, 0, di 0, 0, b9, l10, b11, l12, b13, l14, b15, l16, false, []⟩ K = K (.e1 (dS S) 0 0 b9 l10 b11 l12 b13 l14 b15 l16 false []) :=
  goS_now (fun rec => rfl) _
def gRt (g : List Nat) : Rt := ⟨false, [], decide (0 < g.length), g.map Int.ofNat⟩
theorem gRt_enc (g : List Nat) : (gRt g).enc = da [dl false [], dl (decide (0 < g.length)) (g.map dn)] := by
  simp only [gRt, Rt.enc, List.map_nil, List.map_map]; rfl
theorem tail_root (g : List Nat) (hg : g.length ≤ 100) (h : ∀ x ∈ g, x ≤ big) (hv : validB [] (g.map Int.ofNat) = true) : getTail (bs (rootL g)) = some (D.tup [(gRt g).enc, db true]) := by
  have hl := nums_len h
  have hl2 := num_len (n := g.length) (by simp only [big]; omega)
  have e0 : rootL g = numL 0 ++ (numL g.length ++ numsL g) := by simp [rootL, numsL]
  unfold getTail
  rw [e0]
  refine bdS (getnum_ok 0 _ (by simp [big]) (by rw [List.length_append]; omega)) (cf rfl (cf rfl ?_))
  refine (map_loop _ _ _ _ _ _ _ _ _ _).trans ?_
  refine bdS (getnum_ok g.length (numsL g) (by simp only [big]; omega) (by omega)) (cf rfl (cf (by simp; omega) ?_))
  refine (gone_loop g hg h _ _ _ _ _ _ _ _ _ _ _).trans ?_
  refine cf (by simp) ?_
  have hr : da [dl false ((([] : List D).drop 0).take 0), dl (decide (0 < g.length)) (((g.map dn).drop 0).take g.length)] = (gRt g).enc := by
    rw [gRt_enc, List.drop_zero, List.drop_zero, List.take_of_length_le (l := g.map dn) (by simp)]; rfl
  rw [hr]
  refine bdS (valid_ok (gRt g)) ?_
  show cond (!(validB [] (g.map Int.ofNat))) _ _ = _
  rw [hv]; rfl
theorem get_parts (nn : Bool) (n : Nat) (g : List Nat) (hn : 2 ≤ n) (hn2 : n ≤ 218) (hS : (rootL g).length ≤ 1000) (hg : g.length ≤ 100) (h : ∀ x ∈ g, x ≤ big) (hv : validB [] (g.map Int.ofNat) = true) :
    F35.s FUEL (dl nn ((ptexts n (rootL g)).map tD)) = some (D.tup [(gRt g).enc, db true]) := by
  unfold F35.s
  have hS1 : 1 ≤ (rootL g).length := by
    have := numL_pos 0
    simp only [rootL, numsL, List.flatMap_cons, List.length_append]; omega
  have htail := tail_root g hg h hv
  have hTl : (ptexts n (rootL g)).length = manyC (rootL g).length n := by simp [ptexts]
  refine bdS (whole_parts nn n (rootL g) hn hn2 hS1 hS) (cf rfl (cf (by simp [dn]; omega) ?_))
  by_cases h1 : 1 < manyC (rootL g).length n
  · have h2 := (many_lt (by omega) 1).1 h1
    refine ct (by simp [hTl]; omega) (cf (by simp [dn]; omega) ?_)
    exact htail
  · refine cf (by simp [hTl]; omega) ?_
    exact htail
theorem get_torn (nn : Bool) (n : Nat) (S : List UInt8) (hn : 2 ≤ n) (hn2 : n ≤ 218) (hS : S.length ≤ 1000) (at1 : Nat) (hat : at1 < (ptexts n S).length) :
    F35.s FUEL (dl nn (((ptexts n S).take at1).map tD)) = some (D.tup [noRt.enc, db false]) := by
  have hTl : (ptexts n S).length = manyC S.length n := by simp [ptexts]
  have hml := many_le (len := S.length) (n := n) (by omega)
  unfold F35.s
  by_cases h0 : at1 = 0
  · subst h0
    have e : F50.s FUEL (dl nn (((ptexts n S).take 0).map tD)) = some (D.tup [dS (bs []), di 0, db true]) := by
      unfold F50.s
      exact goS_now (fun rec => rfl) _
    have e2 : F79.s FUEL (bs []) = some (D.tup [di 0, dS (bs []), db false]) := by
      unfold F79.s
      have : F86.s FUEL (bs []) = some (da [di 0, dS (bs []), db false]) := by
        unfold F86.s
        exact goS_now (fun rec => rfl) _
      rw [this]; rfl
    refine bdS e (cf rfl (cf rfl (cf rfl (bdS e2 (ct rfl rfl)))))
  · have e : F50.s FUEL (dl nn (((ptexts n S).take at1).map tD)) = some (D.tup [dS (bs []), di 0, db false]) := by
      unfold F50.s
      refine goS_now (fun rec => ?_) _
      simp only [F50.st3]
      have hl : ((ptexts n S).take at1).length = at1 := by rw [List.length_take]; omega
      have hx : ix (dl nn (((ptexts n S).take at1).map tD)).elems (0 : Int).toNat = tD (ptext n S 0) := by
        refine (ix_map (by omega)).trans ?_
        simp [ptexts]
      rw [hx]
      refine ct (by simp [hl]; omega) (ct (by simp [hl]; omega) (bdS (head_ok n S 0 (by omega) (by omega) (by omega)) (cf rfl (ct rfl (cf rfl (ct rfl (ct ?_ rfl)))))))
      show neI ((manyC S.length n : Nat) : Int) (nI (((ptexts n S).take at1).map tD).length) = true
      rw [List.length_map, hl]; simp; omega
    exact bdS e (ct rfl rfl)
end Go.AM.SP
set_option linter.all false
set_option autoImplicit false
namespace Go.AM.SP
open Go Go.AM
theorem first_of {L : List Sp} {s n : Int} {p : Sp} (hp : p ∈ L) (h : isPart s n p = true) (hu : ∀ q ∈ L, isPart s n q = true → q = p) : first L s n = some p := by
  cases hf : first L s n with
  | none =>
    unfold first at hf
    rw [List.find?_eq_none] at hf
    exact absurd h (hf p hp)
  | some q =>
    unfold first at hf
    have h1 := List.find?_some hf
    have h2 := List.mem_of_find?_eq_some hf
    rw [hu q h2 h1]
theorem isPart_t {s n : Int} {p : Sp} : (isPart s n p = true) ↔ p.kind = 1 ∧ p.seq = s ∧ p.owner = 0 ∧ p.logic = n := by
  unfold isPart
  simp [and_assoc]
structure Row (s : Int) (P : List Sp) : Prop where
  at1 : ∀ (j : Nat) (h : j < P.length), P[j].kind = 1 ∧ P[j].seq = s ∧ P[j].owner = 0 ∧ P[j].logic = (j : Int)
theorem isParts_of {L : List Sp} {s : Int} {P : List Sp} (hr : Row s P) (hP : ∀ (j : Nat) (h : j < P.length), P[j] ∈ L)
    (hL : ∀ q ∈ L, q.kind = 1 → q.seq = s → (∃ (j : Nat) (h : j < P.length), q = P[j]) ∨ (P.length : Int) < q.logic) : IsParts L s P := by
  refine ⟨fun j hj => ?_, ?_⟩
  · refine first_of (hP j hj) (isPart_t.2 (hr.at1 j hj)) ?_
    intro q hq hpq
    obtain ⟨g1, g2, g3, g4⟩ := isPart_t.1 hpq
    rcases hL q hq g1 g2 with ⟨i, hi, rfl⟩ | h
    · have := (hr.at1 i hi).2.2.2
      have hij : i = j := by omega
      subst hij; rfl
    · omega
  · unfold first
    rw [List.find?_eq_none]
    intro q hq hpq
    obtain ⟨g1, g2, g3, g4⟩ := isPart_t.1 hpq
    rcases hL q hq g1 g2 with ⟨i, hi, rfl⟩ | h
    · have := (hr.at1 i hi).2.2.2
      omega
    · omega
theorem seqs_mem {L : List Sp} {s : Int} : s ∈ seqsOf L ↔ ∃ p ∈ L, p.kind = 1 ∧ 0 ≤ p.seq ∧ p.seq = s := by
  unfold seqsOf
  simp [and_assoc]
theorem hi_mem {L : List Sp} {p : Sp} (h : p ∈ L) : p.seq ≤ hi L := by
  obtain ⟨a, b, rfl⟩ := List.append_of_mem h
  have h1 := hi_ge (a ++ [p]) b
  rw [hi_snoc, List.append_assoc] at h1
  have h2 : p.seq ≤ maxi (hi a) p.seq := by unfold maxi; split <;> omega
  exact Int.le_trans h2 h1
theorem bd_new {nn : Bool} {X : List D} {L : List Sp} {F : D → Option D} {R : Option D} (hX : X = L.map Sp.enc) (hl : L.length ≤ 1000) (ht : ∀ x ∈ L, x.text.size ≤ 230)
    (h : ∀ (f : Fd) (ok : Bool), f.high = hi L → (ok = true → Hit L f.seq f.parts f.root ∧ f.pn = !f.parts.isEmpty ∧ f.seq ∈ seqsOf L ∧ ∀ s ∈ seqsOf L, f.seq < s → ¬ Good L s) → (ok = false → f = ⟨noRt, 0, false, [], hi L⟩ ∧ ∀ s ∈ seqsOf L, ¬ Good L s) → F (D.tup [f.enc, db ok]) = R) :
    bd (F17.s FUEL (dl nn X)) F = R := by
  subst hX
  obtain ⟨f, ok, e, h1, h2, h3⟩ := newest_ok nn L hl ht
  exact bdS e (h f ok h1 h2 h3)
structure PutOk (r : Rt) (room : Int) (b : Bool) (n : Nat) (g : List Nat) : Prop where
  put : F30.s FUEL r.enc room = some (.slice b ((ptexts n (rootL g)).map tD))
  n2 : 2 ≤ n
  n218 : n ≤ 218
  len : g.length ≤ 60
  le : ∀ x ∈ g, x ≤ big
  gone : r.gone = g.map Int.ofNat
  ok : validB [] (g.map Int.ofNat) = true
theorem root_len {g : List Nat} (hg : g.length ≤ 60) (h : ∀ x ∈ g, x ≤ big) : (rootL g).length ≤ 496 := by
  have h1 := nums_len (l := 0 :: g.length :: g) (by
    intro x hx
    rcases List.mem_cons.1 hx with rfl | hx
    · simp [big]
    rcases List.mem_cons.1 hx with rfl | hx
    · simp only [big]; omega
    · exact h x hx)
  simp only [List.length_cons] at h1
  unfold rootL; omega
theorem put_any (r : Rt) (room : Int) (hm : r.map = []) (hg : r.gone.length ≤ 60) : F30.s FUEL r.enc room = some (.slice false []) ∨ ∃ b n g, PutOk r room b n g := by
  by_cases h : validB r.map r.gone = false ∨ room < 8 ∨ 224 < room
  · exact .inl (put_none r room h)
  · right
    have hv : validB r.map r.gone = true := by
      cases hv : validB r.map r.gone
      · exact absurd (.inl hv) h
      · rfl
    have h8 : 8 ≤ room := by omega
    have h224 : room ≤ 224 := by omega
    obtain ⟨rm, rfl⟩ : ∃ rm : Nat, room = (rm : Int) := ⟨room.toNat, by omega⟩
    obtain ⟨mn, m, gn, gone⟩ := r
    simp only at hm hg hv
    subst hm
    have hall : ∀ x ∈ gone, 0 ≤ x ∧ x ≤ 1099511627776 := by
      unfold validB at hv
      simp only [Bool.and_eq_true, Bool.not_eq_true'] at hv
      have h1 := hv.1.1.2
      intro x hx
      rw [List.any_eq_false] at h1
      have := h1 x hx
      simpa [withinB] using this
    have hgg : gone = (gone.map Int.toNat).map Int.ofNat := by
      rw [List.map_map]
      refine ((List.map_congr_left (g := id) ?_).trans (List.map_id _)).symm
      intro x hx
      have := hall x hx
      show ((x.toNat : Nat) : Int) = x
      omega
    have hle : ∀ x ∈ gone.map Int.toNat, x ≤ big := by
      intro x hx
      obtain ⟨y, hy, rfl⟩ := List.mem_map.1 hx
      have := hall y hy
      simp only [big]; omega
    have hgl : (gone.map Int.toNat).length ≤ 60 := by simpa using hg
    generalize gone.map Int.toNat = g at *
    subst hgg
    have hS := root_len hgl hle
    refine ⟨decide (0 < manyC (rootL g).length (rm - 6)), rm - 6, g, ?_, by omega, by omega, hgl, hle, rfl, hv⟩
    · have e : Rt.enc ⟨mn, [], gn, g.map Int.ofNat⟩ = da [dl mn [], dl gn (g.map dn)] := by
        simp only [Rt.enc, List.map_nil, List.map_map]; rfl
      rw [e]
      exact put_ok mn gn g rm (by omega) (by omega) (by omega) hle hv (by omega)
theorem many_half {len n : Nat} (hn : 2 ≤ n) : manyC len n ≤ len / 2 + 1 := by
  rcases Nat.lt_or_ge (len / 2 + 1) (manyC len n) with h | h
  · have h1 := (many_lt (by omega) _).1 h
    have h2 : (len / 2 + 1) * 2 ≤ (len / 2 + 1) * n := Nat.mul_le_mul_left _ hn
    omega
  · exact h
theorem ptexts_len (n : Nat) (S : List UInt8) : (ptexts n S).length = manyC S.length n := by simp [ptexts]
theorem ptext_size {n : Nat} {S : List UInt8} {i : Nat} (hn : n ≤ 218) (hm : manyC S.length n ≤ 1000) (hi : i ≤ 1000) : (ptext n S i).length ≤ 230 := by
  have h1 := numL_len 1 i (by omega)
  have h2 := numL_len 1 (manyC S.length n) (by omega)
  have h3 := chunk_len n S i
  unfold ptext
  simp only [List.length_append]
  omega
theorem row_parts (seq blk : Int) (T : List (List UInt8)) : Row seq (partsOf seq blk T) := ⟨fun j h => by rw [partsOf_at]; exact ⟨rfl, rfl, rfl, rfl⟩⟩
theorem row_take {seq : Int} {P : List Sp} (h : Row seq P) (k : Nat) : Row seq (P.take k) := ⟨fun j hj => by
  rw [List.getElem_take]; exact h.at1 j (by rw [List.length_take] at hj; omega)⟩
theorem parts_text (seq blk : Int) (T : List (List UInt8)) : (partsOf seq blk T).map (fun p => dS p.text) = T.map tD := by
  refine List.ext_getElem (by simp [partsOf_len]) ?_
  intro i h1 h2
  simp only [List.getElem_map]
  rw [partsOf_at]
  have : T.getD i [] = T[i]'(by simpa using h2) := by rw [List.getD_eq_getElem?_getD, List.getElem?_eq_getElem (by simpa using h2)]; rfl
  rw [this]; rfl
theorem parts_mem {seq blk : Int} {T : List (List UInt8)} {q : Sp} (h : q ∈ partsOf seq blk T) : q.seq = seq ∧ ∃ (i : Nat) (hi : i < (partsOf seq blk T).length), q = (partsOf seq blk T)[i] := by
  obtain ⟨i, hi, rfl⟩ := List.getElem_of_mem h
  exact ⟨((row_parts seq blk T).at1 i hi).2.1, i, hi, rfl⟩
theorem parts_size {seq blk : Int} {n : Nat} {S : List UInt8} (hn : 2 ≤ n) (hn2 : n ≤ 218) (hS : S.length ≤ 496) : (∀ x ∈ partsOf seq blk (ptexts n S), x.text.size ≤ 230) ∧ (partsOf seq blk (ptexts n S)).length ≤ 249 := by
  have hm := many_half (len := S.length) hn
  constructor
  · intro x hx
    obtain ⟨_, i, hi, rfl⟩ := parts_mem hx
    rw [partsOf_at]
    rw [partsOf_len, ptexts_len] at hi
    show (bs ((ptexts n S).getD i [])).size ≤ 230
    rw [bs_size]
    have : (ptexts n S).getD i [] = ptext n S i := by
      rw [List.getD_eq_getElem?_getD, List.getElem?_eq_getElem (by rw [ptexts_len]; exact hi)]; simp [ptexts]
    rw [this]
    exact ptext_size hn2 (by omega) (by omega)
  · rw [partsOf_len, ptexts_len]; omega
theorem good_all {L : List Sp} {r : Rt} {room : Int} {b : Bool} {n : Nat} {g : List Nat} (hp : PutOk r room b n g) (seq blk : Int) (hsub : ∀ p ∈ partsOf seq blk (ptexts n (rootL g)), p ∈ L)
    (hL : ∀ q ∈ L, q.kind = 1 → q.seq = seq → q ∈ partsOf seq blk (ptexts n (rootL g))) : IsParts L seq (partsOf seq blk (ptexts n (rootL g))) ∧ F35.s FUEL (dl (!(partsOf seq blk (ptexts n (rootL g))).isEmpty) ((partsOf seq blk (ptexts n (rootL g))).map fun p => dS p.text)) = some (D.tup [(gRt g).enc, db true]) ∧ Good L seq := by
  have h1 : IsParts L seq (partsOf seq blk (ptexts n (rootL g))) := isParts_of (row_parts _ _ _) (fun j hj => hsub _ (List.getElem_mem _)) (fun q hq g1 g2 => .inl (parts_mem (hL q hq g1 g2)).2)
  have h2 : F35.s FUEL (dl (!(partsOf seq blk (ptexts n (rootL g))).isEmpty) ((partsOf seq blk (ptexts n (rootL g))).map fun p => dS p.text)) = some (D.tup [(gRt g).enc, db true]) := by
    rw [parts_text]
    exact get_parts _ n g hp.n2 hp.n218 (by have := root_len hp.len hp.le; omega) (by have := hp.len; omega) hp.le hp.ok
  exact ⟨h1, h2, _, _, h1, h2, rfl⟩
theorem torn_not {L : List Sp} {r : Rt} {room : Int} {b : Bool} {n : Nat} {g : List Nat} (hp : PutOk r room b n g) (seq blk : Int) (k : Nat) (hk : k < (partsOf seq blk (ptexts n (rootL g))).length)
    (hsub : ∀ p ∈ (partsOf seq blk (ptexts n (rootL g))).take k, p ∈ L)
    (hL : ∀ q ∈ L, q.kind = 1 → q.seq = seq → q ∈ (partsOf seq blk (ptexts n (rootL g))).take k ∨ q ∈ (partsOf seq blk (ptexts n (rootL g))).drop (k + 1)) : ¬ Good L seq := by
  have hr := row_parts seq blk (ptexts n (rootL g))
  have htx := parts_text seq blk (ptexts n (rootL g))
  have hpl := partsOf_len seq blk (ptexts n (rootL g))
  have hS := root_len hp.len hp.le
  have hget := fun nn => get_torn nn n (rootL g) hp.n2 hp.n218 (by omega) k (by omega)
  generalize partsOf seq blk (ptexts n (rootL g)) = P at *
  have h1 : IsParts L seq (P.take k) := by
    refine isParts_of (row_take hr k) (fun j hj => hsub _ (List.getElem_mem _)) ?_
    intro q hq g1 g2
    rcases hL q hq g1 g2 with h | h
    · obtain ⟨j, hj, rfl⟩ := List.getElem_of_mem h
      exact .inl ⟨j, hj, rfl⟩
    · right
      obtain ⟨j, hj, rfl⟩ := List.getElem_of_mem h
      rw [List.length_drop] at hj
      rw [List.getElem_drop, (hr.at1 (k + 1 + j) (by omega)).2.2.2, List.length_take]
      omega
  refine not_good_of (r := noRt) h1 ?_
  have : (P.take k).map (fun p => dS p.text) = ((ptexts n (rootL g)).take k).map tD := by
    rw [List.map_take, htx, List.map_take]
  rw [this]
  exact hget _
def dataB (p : Sp) : Bool := p.kind == 0 && decide (p.seq ≤ 9)
theorem data_loop (nn : Bool) (l : List Sp) (i3 i4 : Int) (d6 d10 d11 : D) (hl : l.length ≤ 60) (K : F6.X9 → Option D) :
    ∃ b, goS (F6.st9 FUEL) FUEL ⟨i3, i4, dl nn (l.map Sp.enc), d6, 0, 0, 0, d10, d11, false, []⟩ K = K (.e0 i3 i4 d6 0 (l.filter dataB).length d10 d11 b ((l.filter dataB).map Sp.enc)) := by
  have hlen : ∀ k, ((l.take k).filter dataB).length ≤ 60 := by
    intro k
    refine Nat.le_trans (List.length_filter_le _ _) ?_
    rw [List.length_take]; omega
  refine goS_rule (fun t : F6.S9 => ∃ (k : Nat) (b : Bool), t = ⟨i3, i4, dl nn (l.map Sp.enc), d6, 0, ((l.take k).filter dataB).length, (k : Int), d10, d11, b, ((l.take k).filter dataB).map Sp.enc⟩ ∧ k ≤ l.length) (fun t => l.length - t.i9.toNat)
    (fun R => ∃ b, R = K (.e0 i3 i4 d6 0 (l.filter dataB).length d10 d11 b ((l.filter dataB).map Sp.enc))) ?_ _ _ ⟨0, false, by simp, by omega⟩ (by simp [FUEL]; omega)
  rintro _ rec ⟨k, b, rfl, hk⟩ hrec
  simp only [F6.st9]
  by_cases h1 : k < l.length
  · have hx : ix (dl nn (l.map Sp.enc)).elems (k : Int).toNat = l[k].enc := ix_map h1
    have e1 : ltI (k : Int) (nI (dl nn (l.map Sp.enc)).elems.length) = true := by simp; omega
    have e3 : inb (k : Int) (dl nn (l.map Sp.enc)).elems.length = true := by simp; omega
    have hadd : ad .i64 (k : Int) 1 = ((k + 1 : Nat) : Int) := by rw [ad64 (by omega) (by omega)]; rfl
    have hmx : mx (((l.take k).filter dataB).length + 1) = true := by have := hlen k; simp; omega
    have a0 : ((l[k].enc.at 2).at 0).i = l[k].kind := rfl
    have a1 : ((l[k].enc.at 2).at 1).i = l[k].seq := rfl
    have step : (l.take (k + 1)).filter dataB = (l.take k).filter dataB ++ (if dataB l[k] then [l[k]] else []) := by
      rw [List.take_succ_eq_append_getElem h1, List.filter_append]
      congr 1
      cases hb : dataB l[k] <;> simp [hb]
    rw [e1, e3, hx, hadd, hmx, a0, a1]
    simp only [cond_true]
    have skip : dataB l[k] = false → ∃ b', rec ⟨i3, i4, dl nn (l.map Sp.enc), d6, 0, ((l.take k).filter dataB).length, ((k + 1 : Nat) : Int), d10, d11, b, ((l.take k).filter dataB).map Sp.enc⟩ = K (.e0 i3 i4 d6 0 (l.filter dataB).length d10 d11 b' ((l.filter dataB).map Sp.enc)) := by
      intro hb
      refine hrec _ ⟨k + 1, b, ?_, by omega⟩ (by simp; omega)
      rw [step, hb]; simp
    by_cases g1 : l[k].kind = 0
    · rw [show eqI l[k].kind 0 = true by simp [g1]]
      simp only [cond_true]
      by_cases g2 : l[k].seq ≤ 9
      · rw [show leI l[k].seq 9 = true by simp [g2]]
        have hb : dataB l[k] = true := by simp [dataB, g1, g2]
        refine hrec _ ⟨k + 1, b || true, ?_, by omega⟩ (by simp; omega)
        rw [step, hb, List.drop_zero, show (((l.take k).filter dataB).map Sp.enc).take ((l.take k).filter dataB).length = ((l.take k).filter dataB).map Sp.enc from List.take_of_length_le (by simp)]
        simp [ap]
      · rw [show leI l[k].seq 9 = false by simp; omega]
        exact skip (by simp [dataB]; omega)
    · rw [show eqI l[k].kind 0 = false by simp [g1]]
      exact skip (by simp [dataB, g1])
  · have e1 : ltI (k : Int) (nI (dl nn (l.map Sp.enc)).elems.length) = false := by simp; omega
    rw [e1]
    have hkl : k = l.length := by omega
    subst hkl
    rw [take_all]
    exact ⟨b, rfl⟩
theorem same_root {r : Rt} {room : Int} {b : Bool} {n : Nat} {g : List Nat} (hp : PutOk r room b n g) (hm : r.map = []) : F20.s FUEL (gRt g).enc r.enc = some (db true) := by
  have := hp.len
  exact same_ok (gRt g) r hm.symm hp.gone.symm (by simp [gRt]) (by simp [gRt]; omega)
theorem newest_is {L : List Sp} {s t : Int} (hst : ∀ x ∈ seqsOf L, x = s ∨ x = t) {P : List Sp} {r : Rt} (hP : IsParts L s P) (hg : F35.s FUEL (dl (!P.isEmpty) (P.map fun p => dS p.text)) = some (D.tup [r.enc, db true])) (hs : s ∈ seqsOf L) (hgood : Good L s) (hnot : t < s ∨ ¬ Good L t)
    {f : Fd} {ok : Bool} (h1 : ok = true → Hit L f.seq f.parts f.root ∧ f.pn = !f.parts.isEmpty ∧ f.seq ∈ seqsOf L ∧ ∀ s ∈ seqsOf L, f.seq < s → ¬ Good L s) (h2 : ok = false → f = ⟨noRt, 0, false, [], hi L⟩ ∧ ∀ s ∈ seqsOf L, ¬ Good L s) : ok = true ∧ f.seq = s ∧ f.root = r := by
  cases ok
  · exact absurd hgood ((h2 rfl).2 s hs)
  obtain ⟨hit, _, hmem, hmax⟩ := h1 rfl
  have hgf : Good L f.seq := ⟨_, _, hit.parts, hit.get, hit.holds⟩
  have hfs : f.seq = s := by
    rcases hst f.seq hmem with h | h
    · exact h
    · rcases hnot with g | g
      · exact absurd hgood (hmax s hs (by omega))
      · rw [h] at hgf; exact absurd hgf g
  refine ⟨rfl, hfs, ?_⟩
  have hp := hit.parts
  rw [hfs] at hp
  have hPP := parts_uniq hp hP (fun _ => rfl)
  have h3 := hit.get
  rw [hPP, hg] at h3
  simp only [Option.some.injEq, D.tup.injEq, List.cons.injEq, and_true] at h3
  exact (rt_inj h3).symm
theorem torn_law (ra rb : Rt) (room at1 : Int) (nn : Bool) (l : List Sp) : F6.s FUEL ra.enc rb.enc room at1 (dl nn (l.map Sp.enc)) = some (db true) := by
  unfold F6.s
  refine bdS works_eq (cf (by simp) ?_)
  obtain ⟨b, hb, hfew⟩ := few_ok nn l
  refine bdS hb ?_
  cases b
  · exact ct rfl rfl
  obtain ⟨hl, ht⟩ := hfew rfl
  refine cf rfl ?_
  have ha0 : (ra.enc.at 0).elems = ra.map.map Ey.enc := rfl
  have ha1 : (ra.enc.at 1).elems = ra.gone.map (D.int .i64) := rfl
  have hb0 : (rb.enc.at 0).elems = rb.map.map Ey.enc := rfl
  have hb1 : (rb.enc.at 1).elems = rb.gone.map (D.int .i64) := rfl
  rw [ha0, ha1, hb0, hb1]
  by_cases c1 : 0 < ra.map.length
  · exact ct (by simp; omega) rfl
  refine cf (by simp only [gtI_f, nI_eq, List.length_map]; omega) ?_
  by_cases c2 : 0 < rb.map.length
  · exact ct (by simp; omega) rfl
  refine cf (by simp only [gtI_f, nI_eq, List.length_map]; omega) ?_
  by_cases c3 : 60 < ra.gone.length
  · exact ct (by simp; omega) rfl
  refine cf (by simp; omega) ?_
  by_cases c4 : 60 < rb.gone.length
  · exact ct (by simp; omega) rfl
  refine cf (by simp; omega) ?_
  have hma : ra.map = [] := List.eq_nil_of_length_eq_zero (by omega)
  have hmb : rb.map = [] := List.eq_nil_of_length_eq_zero (by omega)
  obtain ⟨bd0, el⟩ := data_loop nn l room at1 (db true) ra.enc rb.enc hl _
  refine el.trans ?_
  have hdk : ∀ p ∈ l.filter dataB, p.kind ≠ 1 := by
    intro p hp
    have := (List.mem_filter.1 hp).2
    simp only [dataB, Bool.and_eq_true, beq_iff_eq] at this
    omega
  have hdl : (l.filter dataB).length ≤ 60 := Nat.le_trans (List.length_filter_le _ _) hl
  have hdt : ∀ x ∈ l.filter dataB, x.text.size ≤ 230 := fun x hx => ht x (List.mem_filter.1 hx).1
  clear el
  generalize l.filter dataB = dt at *
  rcases put_any ra room hma (by omega) with hpa | ⟨b1, n1, g1, hpa⟩
  · obtain ⟨rb', hpb⟩ : ∃ R, F19.s FUEL rb.enc 7 2 room = some R := by
      rcases put_any rb room hmb (by omega) with h | ⟨b2, n2, g2, h⟩
      · exact ⟨_, parts_ok rb.enc 7 2 room false [] h (by simp)⟩
      · exact ⟨_, parts_ok rb.enc 7 2 room b2 _ h.put (by have := root_len h.len h.le; have := many_half (len := (rootL g2).length) h.n2; rw [ptexts_len]; omega)⟩
    exact bdS (parts_ok ra.enc 5 1 room false [] hpa (by simp)) (bdS hpb (ct rfl rfl))
  have hSa := root_len hpa.len hpa.le
  have hha := many_half (len := (rootL g1).length) hpa.n2
  refine bdS (parts_ok ra.enc 5 1 room b1 _ hpa.put (by rw [ptexts_len]; omega)) ?_
  rcases put_any rb room hmb (by omega) with hpb | ⟨b2, n2, g2, hpb⟩
  · refine bdS (parts_ok rb.enc 7 2 room false [] hpb (by simp)) ?_
    by_cases h0 : (partsOf 5 1 (ptexts n1 (rootL g1))).length = 0
    · exact ct (by simp [h0]) rfl
    · exact cf (by simp only [eqI_f, nI_eq, elems_slice, List.length_map]; omega) (ct rfl rfl)
  have hSb := root_len hpb.len hpb.le
  have hhb := many_half (len := (rootL g2).length) hpb.n2
  refine bdS (parts_ok rb.enc 7 2 room b2 _ hpb.put (by rw [ptexts_len]; omega)) ?_
  have sa := parts_size (seq := 5) (blk := 1) hpa.n2 hpa.n218 hSa
  have sb1 := parts_size (seq := 7) (blk := 2) hpb.n2 hpb.n218 hSb
  have ma := fun q => @parts_mem 5 1 (ptexts n1 (rootL g1)) q
  have mb := fun q => @parts_mem 7 2 (ptexts n2 (rootL g2)) q
  have ga := fun L => @good_all L ra room b1 n1 g1 hpa 5 1
  have gb := fun L => @good_all L rb room b2 n2 g2 hpb 7 2
  have tb := fun L => @torn_not L rb room b2 n2 g2 hpb 7 2
  have rowa := row_parts 5 1 (ptexts n1 (rootL g1))
  have rowb := row_parts 7 2 (ptexts n2 (rootL g2))
  generalize decide (0 < (ptexts n1 (rootL g1)).length) = z1
  generalize decide (0 < (ptexts n2 (rootL g2)).length) = z2
  generalize partsOf 5 1 (ptexts n1 (rootL g1)) = A at *
  generalize partsOf 7 2 (ptexts n2 (rootL g2)) = B at *
  by_cases c5 : A.length = 0
  · exact ct (by simp [c5]) rfl
  refine cf (by simp only [eqI_f, nI_eq, elems_slice, List.length_map]; omega) ?_
  by_cases c6 : B.length = 0
  · exact ct (by simp [c6]) rfl
  refine cf (by simp only [eqI_f, nI_eq, elems_slice, List.length_map]; omega) ?_
  by_cases c7 : at1 < 0
  · exact ct (by simp [c7]) rfl
  refine cf (by simp; omega) ?_
  obtain ⟨k, rfl⟩ : ∃ k : Nat, at1 = (k : Int) := ⟨at1.toNat, by omega⟩
  by_cases c8 : B.length ≤ k
  · exact ct (by simp; omega) rfl
  refine cf (by simp; omega) ?_
  have hadd : ad .i64 (k : Int) 1 = ((k + 1 : Nat) : Int) := by rw [ad64 (by omega) (by omega)]; rfl
  rw [hadd]
  have r1 : ((dt.map Sp.enc).drop 0).take dt.length = dt.map Sp.enc := by rw [List.drop_zero]; exact List.take_of_length_le (by simp)
  have r2 : ((dl z1 (A.map Sp.enc)).elems.drop 0).take (dl z1 (A.map Sp.enc)).elems.length = A.map Sp.enc := by
    rw [elems_slice, List.drop_zero]; exact List.take_of_length_le (by simp)
  have r3 : ((dl z2 (B.map Sp.enc)).elems.drop 0).take (dl z2 (B.map Sp.enc)).elems.length = B.map Sp.enc := by
    rw [elems_slice, List.drop_zero]; exact List.take_of_length_le (by simp)
  have r4 : ((dl z2 (B.map Sp.enc)).elems.drop 0).take ((k : Int).toNat - 0) = (B.take k).map Sp.enc := by
    rw [elems_slice, List.drop_zero, Int.toNat_natCast, Nat.sub_zero, List.map_take]
  have r5 : ((dl z2 (B.map Sp.enc)).elems.drop (0 + ((k + 1 : Nat) : Int).toNat)).take ((dl z2 (B.map Sp.enc)).elems.length - ((k + 1 : Nat) : Int).toNat) = (B.drop (k + 1)).map Sp.enc := by
    rw [elems_slice, Nat.zero_add, Int.toNat_natCast, List.map_drop, List.length_map]; exact List.take_of_length_le (by simp)
  rw [r1, r2, r3, r4, r5]
  have t4 : (B.take k).length ≤ 249 := by rw [List.length_take]; have := sb1.2; omega
  have t5 : (B.drop (k + 1)).length ≤ 249 := by rw [List.length_drop]; have := sb1.2; omega
  have sa2 := sa.2
  have sb2 := sb1.2
  refine ct (by simp; omega) (ct (by simp; omega) (ct ?_ (ct (by simp; omega) (ct ?_ (ct (by simp; omega) (ct (by simp; omega) (ct (by simp; omega) (ct (by simp; omega) ?_))))))))
  · simp; omega
  · simp; omega
  have hApos : A[0]'(by omega) ∈ A := List.getElem_mem _
  have hBpos : B[0]'(by omega) ∈ B := List.getElem_mem _
  have hA5 := rowa.at1 0 (by omega)
  have hB7 := rowb.at1 0 (by omega)
  have mTake : ∀ q ∈ B.take k, q ∈ B := fun q h => List.mem_of_mem_take h
  have mDrop : ∀ q ∈ B.drop (k + 1), q ∈ B := fun q h => List.mem_of_mem_drop h
  have mem1 : ∀ q, q ∈ ((dt ++ A) ++ B.take k) ++ B.drop (k + 1) ↔ q ∈ dt ∨ q ∈ A ∨ q ∈ B.take k ∨ q ∈ B.drop (k + 1) := by
    intro q; simp only [List.mem_append, or_assoc]
  refine bd_new (L := ((dt ++ A) ++ B.take k) ++ B.drop (k + 1)) ?_ (by simp only [List.length_append]; omega) ?_ ?_
  · simp only [ap, List.map_append, List.drop_zero]
    rw [show (dt.map Sp.enc).take (dt.map Sp.enc).length = dt.map Sp.enc from List.take_of_length_le (Nat.le_refl _)]
    rw [show (dt.map Sp.enc ++ A.map Sp.enc).take ((dt.map Sp.enc).length + (A.map Sp.enc).length) = dt.map Sp.enc ++ A.map Sp.enc from List.take_of_length_le (by simp)]
    rw [show (dt.map Sp.enc ++ A.map Sp.enc ++ (B.take k).map Sp.enc).take ((dt.map Sp.enc).length + (A.map Sp.enc).length + ((B.take k).map Sp.enc).length) = dt.map Sp.enc ++ A.map Sp.enc ++ (B.take k).map Sp.enc from List.take_of_length_le (by simp; omega)]
    exact List.take_of_length_le (by simp; omega)
  · intro x hx
    rcases (mem1 x).1 hx with h | h | h | h
    · exact hdt x h
    · exact sa.1 x h
    · exact sb1.1 x (mTake x h)
    · exact sb1.1 x (mDrop x h)
  intro f ok hfh hf1 hf2
  obtain ⟨gA1, gA2, gA3⟩ := ga (((dt ++ A) ++ B.take k) ++ B.drop (k + 1)) (fun p hp => (mem1 p).2 (.inr (.inl hp))) (by
    intro q hq k1 k2
    rcases (mem1 q).1 hq with h | h | h | h
    · exact absurd k1 (hdk q h)
    · exact h
    · have := (mb q (mTake q h)).1; omega
    · have := (mb q (mDrop q h)).1; omega)
  have nB := tb (((dt ++ A) ++ B.take k) ++ B.drop (k + 1)) k (by omega) (fun p hp => (mem1 p).2 (.inr (.inr (.inl hp)))) (by
    intro q hq k1 k2
    rcases (mem1 q).1 hq with h | h | h | h
    · exact absurd k1 (hdk q h)
    · have := (ma q h).1; omega
    · exact .inl h
    · exact .inr h)
  obtain ⟨rfl, hf5, hfr⟩ := newest_is (s := 5) (t := 7) (fun x hx => by
    obtain ⟨p, hp, k1, _, rfl⟩ := seqs_mem.1 hx
    rcases (mem1 p).1 hp with h | h | h | h
    · exact absurd k1 (hdk p h)
    · exact .inl (ma p h).1
    · exact .inr (mb p (mTake p h)).1
    · exact .inr (mb p (mDrop p h)).1) gA1 gA2 (seqs_mem.2 ⟨A[0], (mem1 _).2 (.inr (.inl hApos)), hA5.1, by rw [hA5.2.1]; omega, hA5.2.1⟩) gA3 (.inr nB) hf1 hf2
  have mem2 : ∀ q, q ∈ (B ++ dt) ++ A ↔ q ∈ B ∨ q ∈ dt ∨ q ∈ A := by
    intro q; simp only [List.mem_append, or_assoc]
  refine bd_new (L := (B ++ dt) ++ A) ?_ (by simp only [List.length_append]; omega) ?_ ?_
  · simp only [ap, List.map_append, List.drop_zero]
    rw [show (B.map Sp.enc).take (B.map Sp.enc).length = B.map Sp.enc from List.take_of_length_le (Nat.le_refl _)]
    rw [show (B.map Sp.enc ++ dt.map Sp.enc).take ((B.map Sp.enc).length + (dt.map Sp.enc).length) = B.map Sp.enc ++ dt.map Sp.enc from List.take_of_length_le (by simp)]
    exact List.take_of_length_le (by simp; omega)
  · intro x hx
    rcases (mem2 x).1 hx with h | h | h
    · exact sb1.1 x h
    · exact hdt x h
    · exact sa.1 x h
  intro g is hgh hg1 hg2
  obtain ⟨gB1, gB2, gB3⟩ := gb ((B ++ dt) ++ A) (fun p hp => (mem2 p).2 (.inl hp)) (by
    intro q hq k1 k2
    rcases (mem2 q).1 hq with h | h | h
    · exact h
    · exact absurd k1 (hdk q h)
    · have := (ma q h).1; omega)
  have h7mem : B[0] ∈ (B ++ dt) ++ A := (mem2 _).2 (.inl hBpos)
  obtain ⟨rfl, hg7, hgr⟩ := newest_is (s := 7) (t := 5) (fun x hx => by
    obtain ⟨p, hp, k1, _, rfl⟩ := seqs_mem.1 hx
    rcases (mem2 p).1 hp with h | h | h
    · exact .inl (mb p h).1
    · exact absurd k1 (hdk p h)
    · exact .inr (ma p h).1) gB1 gB2 (seqs_mem.2 ⟨B[0], h7mem, hB7.1, by rw [hB7.2.1]; omega, hB7.2.1⟩) gB3 (.inl (by omega)) hg1 hg2
  refine ct rfl (ct rfl (ct (by show eqI f.seq 5 = true; simp [hf5]) (bdS (x := db true) ?_ (ct rfl (ct rfl (ct (by show eqI g.seq 7 = true; simp [hg7]) (bdS (x := db true) ?_ (ct rfl ?_))))))))
  · show F20.s FUEL f.root.enc ra.enc = _
    rw [hfr]; exact same_root hpa hma
  · show F20.s FUEL g.root.enc rb.enc = _
    rw [hgr]; exact same_root hpb hmb
  · show some (db (geI g.high 7)) = _
    have := hi_mem h7mem
    rw [hB7.2.1] at this
    rw [hgh]
    have e : geI (hi ((B ++ dt) ++ A)) 7 = true := by simp only [geI_t]; exact this
    rw [e]
theorem run6 (p0 p1 : D) (i j : Int) (p4 : D) : F6.c.run [p0, p1, di i, di j, p4] = F6.s FUEL p0 p1 i j p4 := by simp only [F6.c, i_int]
theorem pure6 : ∀ ds, D.hass ty ds [(.struct [23, 24]), (.struct [23, 24]), (.int .i64), (.int .i64), (.slice 45)] → D.wfs ds → F6.c.run ds = some (.bool true) := by
  intro ds h hw
  obtain ⟨d0, _, rfl, h0, h⟩ := hassC h
  obtain ⟨d1, _, rfl, h1, h⟩ := hassC h
  obtain ⟨d2, _, rfl, h2, h⟩ := hassC h
  obtain ⟨d3, _, rfl, h3, h⟩ := hassC h
  obtain ⟨d4, _, rfl, h4, h⟩ := hassC h
  obtain rfl := hass0 h
  simp only [D.wfs] at hw
  obtain ⟨ra, rfl, _⟩ := rt_of h0 hw.1
  obtain ⟨rb, rfl, _⟩ := rt_of h1 hw.2.1
  obtain ⟨i, rfl, _⟩ := int_of h2 hw.2.2.1
  obtain ⟨j, rfl, _⟩ := int_of h3 hw.2.2.2.1
  obtain ⟨nn, l, rfl, hl⟩ := sps_of h4 hw.2.2.2.2.1
  rw [run6]
  exact torn_law ra rb i j nn l
end Go.AM.SP
