/- Part 14 of the proof: the abstract machine, what the functions compute, and plain laws over that. -/
import Derived.Test.YtonknblidjpfeaaGreatDoorMr13
set_option linter.all false
set_option linter.unusedSimpArgs false
set_option linter.unusedVariables false
set_option linter.unusedSectionVars false
namespace Go.AM.SZ
open Go Go.AM
theorem condT {c : Bool} {a b : Option D} (h : c = true) : cond c a b = a := by subst h; rfl
theorem condF {c : Bool} {a b : Option D} (h : c = false) : cond c a b = b := by subst h; rfl
theorem insN_at {x : ByteArray} : ∀ {l : List ByteArray} {j : Nat}, x ∉ l → j ≤ l.length → (∀ i (h : i < l.length), i < j → lessB l[i] x = true) → (∀ h : j < l.length, lessB l[j] x = false) → insN x l = l.take j ++ [x] ++ l.drop j
  | [], j, _, hj, _, _ => by simp [insN]
  | y :: l, 0, hx, _, _, h2 => by
    have hy := h2 (by simp)
    simp only [List.getElem_cons_zero] at hy
    have hne : y ≠ x := fun e => hx (by simp [e])
    have := less_of_not hy hne
    simp [insN, this]
  | y :: l, j + 1, hx, hj, h1, h2 => by
    have hy := h1 0 (by simp) (by omega)
    simp only [List.getElem_cons_zero] at hy
    have hxy := less_asymm hy
    have ih := insN_at (x := x) (l := l) (j := j) (fun h => hx (by simp [h])) (by simpa using hj) (fun i hi hij => by have := h1 (i + 1) (by simpa using hi) (by omega); simpa using this) (fun h => by have := h2 (by simpa using h); simpa using this)
    simp [insN, hxy, ih]
theorem names_ref (s : St) (hl : s.files.length ≤ 1000) (hsz : ∀ f ∈ s.files, f.name.size ≤ 1000) (hnd : (s.files.map (·.name)).Nodup) : ∃ b, F55.s FUEL s.enc = some (dl b ((sortN (s.files.map (·.name))).map dS)) := by
  unfold F55.s
  have h0 : s.enc.at 0 = dl s.nn (s.files.map Fl.enc) := rfl
  refine goS_rule (fun t : F55.S3 => ∃ (k : Nat) (b : Bool), t = ⟨0, k, (k : Int), s.enc, b, (sortN ((s.files.map (·.name)).take k)).map dS⟩ ∧ k ≤ s.files.length) (fun t => s.files.length - t.i3.toNat) (fun o => ∃ b, o = some (dl b ((sortN (s.files.map (·.name))).map dS))) ?_ _ _ ⟨0, false, rfl, by omega⟩ (by simp [FUEL]; omega)
  rintro _ rec ⟨k, b, rfl, hk⟩ hrec
  simp only [F55.st3, h0]
  generalize hN : s.files.map (·.name) = N at hnd hrec
  have hNl : N.length = s.files.length := by rw [← hN]; simp
  have hNs : ∀ n ∈ N, n.size ≤ 1000 := by
    intro n hn
    rw [← hN] at hn
    obtain ⟨f, hf, rfl⟩ := List.mem_map.1 hn
    exact hsz f hf
  have hperm := sortN_perm (N.take k)
  have hol : (sortN (N.take k)).length = k := by rw [hperm.length_eq]; simp; omega
  by_cases h1 : k < s.files.length
  · have hkN : k < N.length := by omega
    have hadd : ad .i64 (k : Int) 1 = ((k + 1 : Nat) : Int) := by rw [ad64 (by omega) (by omega)]; rfl
    have hstep : sortN (N.take (k + 1)) = insN N[k] (sortN (N.take k)) := by
      rw [List.take_succ_eq_append_getElem hkN]
      unfold sortN
      rw [List.foldl_append]
      rfl
    have hnk : ((ix (s.files.map Fl.enc) k).at 1) = dS N[k] := by
      rw [ix_map h1]
      have : N[k] = (s.files[k]).name := by simp [← hN]
      rw [this]
      rfl
    have hxn : N[k] ∉ sortN (N.take k) := by
      intro h
      have h2 := hperm.mem_iff.1 h
      obtain ⟨i, hi, he⟩ := List.getElem_of_mem h2
      rw [List.getElem_take] at he
      have hik : i < k := by simp at hi; omega
      exact (List.pairwise_iff_getElem.1 hnd) i k (by omega) hkN hik he
    have hOs : ∀ n ∈ sortN (N.take k), n.size ≤ 1000 := fun n hn => hNs n (List.mem_of_mem_take (hperm.mem_iff.1 hn))
    generalize sortN (N.take k) = O at hol hstep hxn hOs
    have hOl : (O.map dS).length = k := by rw [List.length_map]; exact hol
    rw [condT (by simp; omega)]
    have fin : ∀ (j : Nat) (R : Option D → Prop), j ≤ O.length → (∀ i (h : i < O.length), i < j → lessB O[i] N[k] = true) → (∀ h : j < O.length, lessB O[j] N[k] = false) → (∀ b, R (rec ⟨0, k + 1, ((k + 1 : Nat) : Int), s.enc, b, (sortN (N.take (k + 1))).map dS⟩)) →
        R (cond (true && (leI 0 (j : Int)) && (leN (0 + (j : Int).toNat) (O.map dS).length)) (cond (mx (((O.map dS).drop (0 + 0)).take ((j : Int).toNat - 0)).length) (cond (inb (k : Int) (dl s.nn (s.files.map Fl.enc)).elems.length) (cond (mx ((((O.map dS).drop (0 + 0)).take ((j : Int).toNat - 0)).length + 1)) (cond ((leI 0 (j : Int)) && (leI (j : Int) (nI k)) && (leN (0 + k) (O.map dS).length)) (cond (mx (((((O.map dS).drop (0 + 0)).take ((j : Int).toNat - 0)).length + 1) + (((O.map dS).drop (0 + (j : Int).toNat)).take (k - (j : Int).toNat)).length)) (rec ⟨0, (((((O.map dS).drop (0 + 0)).take ((j : Int).toNat - 0)).length + 1) + (((O.map dS).drop (0 + (j : Int).toNat)).take (k - (j : Int).toNat)).length), (ad .i64 (k : Int) 1), s.enc, (((!(((O.map dS).drop (0 + 0)).take ((j : Int).toNat - 0)).isEmpty) || true) || (!(((O.map dS).drop (0 + (j : Int).toNat)).take (k - (j : Int).toNat)).isEmpty)), (ap (((ap (((((O.map dS).drop (0 + 0)).take ((j : Int).toNat - 0)).drop 0).take (((O.map dS).drop (0 + 0)).take ((j : Int).toNat - 0)).length) [((ix (dl s.nn (s.files.map Fl.enc)).elems (k : Int).toNat).at 1)]).drop 0).take ((((O.map dS).drop (0 + 0)).take ((j : Int).toNat - 0)).length + 1)) (((O.map dS).drop (0 + (j : Int).toNat)).take (k - (j : Int).toNat)))⟩) none) none) none) none) none) none) := by
      intro j R hj a1 a2 hR
      have hins := insN_at hxn hj a1 a2
      simp only [Nat.zero_add, Int.toNat_natCast, Nat.sub_zero, List.drop_zero, elems_slice, hnk, hadd]
      have e1 : ((O.map dS).drop j).take (k - j) = (O.map dS).drop j := List.take_of_length_le (by simp; omega)
      have e2 : ((O.map dS).take j).length = j := by simp; omega
      rw [e1]
      have e3 : (((O.map dS).take j).take ((O.map dS).take j).length) = (O.map dS).take j := List.take_length
      rw [e3]
      unfold ap
      have e4 : ((O.map dS).take j ++ [dS N[k]]).take (((O.map dS).take j).length + 1) = (O.map dS).take j ++ [dS N[k]] := List.take_of_length_le (by simp)
      have e5 : (O.map dS).take j ++ [dS N[k]] ++ (O.map dS).drop j = (sortN (N.take (k + 1))).map dS := by rw [hstep, hins]; simp
      have e6 : ((O.map dS).take j).length + 1 + ((O.map dS).drop j).length = k + 1 := by simp; omega
      rw [e4, e5, e6, condT (by simp; omega), condT (by simp; omega), condT (by simp; omega), condT (by simp; omega), condT (by simp; omega), condT (by simp; omega)]
      exact hR _
    refine goS_rule (fun t : F55.S6 => ∃ j : Nat, t = ⟨0, k, (k : Int), (j : Int), s.enc, b, O.map dS⟩ ∧ j ≤ O.length ∧ ∀ i (h : i < O.length), i < j → lessB O[i] N[k] = true) (fun t => O.length - t.i10.toNat) (fun o => ∃ b, o = some (dl b ((sortN N).map dS))) ?_ _ _ ⟨0, rfl, by omega, by omega⟩ (by simp [FUEL]; omega)
    rintro _ rec2 ⟨j, rfl, hj, hlt⟩ hrec2
    simp only [F55.st6, h0]
    by_cases h2 : j < O.length
    · have hadd2 : ad .i64 (j : Int) 1 = ((j + 1 : Nat) : Int) := by rw [ad64 (by omega) (by omega)]; rfl
      have hlr := less_ref O[j] N[k] (by have := hOs _ (List.getElem_mem h2); omega) (by have := hNs _ (List.getElem_mem hkN); omega)
      have e1 : (ix (O.map dS) (0 + (j : Int).toNat)).s = O[j] := by rw [Int.toNat_natCast, Nat.zero_add, ix_map h2]; rfl
      have e2 : ((ix (dl s.nn (s.files.map Fl.enc)).elems (k : Int).toNat).at 1).s = N[k] := by rw [elems_slice, Int.toNat_natCast, hnk]; rfl
      rw [e1, e2, hlr, bd_some, hadd2]
      rw [condT (by simp; omega), condT (by simp; omega), condT (by simp; omega)]
      cases hls : lessB O[j] N[k] with
      | true =>
        refine hrec2 _ ⟨j + 1, rfl, by omega, fun i hi hij => ?_⟩ (by simp; omega)
        by_cases h3 : i = j
        · subst h3; exact hls
        · exact hlt i hi (by omega)
      | false =>
        refine fin j (fun o => ∃ b, o = some (dl b ((sortN N).map dS))) hj hlt (fun _ => hls) (fun b => ?_)
        exact hrec _ ⟨k + 1, b, rfl, by omega⟩ (by simp; omega)
    · rw [condF (by simp; omega)]
      refine fin j (fun o => ∃ b, o = some (dl b ((sortN N).map dS))) hj hlt (fun h => absurd h h2) (fun b => ?_)
      exact hrec _ ⟨k + 1, b, rfl, by omega⟩ (by simp; omega)
  · rw [condF (by simp; omega)]
    have hkl : k = N.length := by omega
    rw [condT (by simp [hol])]
    exact ⟨b, by rw [hkl, List.take_length]⟩
end Go.AM.SZ
namespace Go.AM.SZ
open Go Go.AM
theorem stay_ref {s s' : St} (h : SimS s s') (e : Int) : SimR (stay s e) ⟨s', wrongA e, false, []⟩ := ⟨h, SimA.refl _, rfl⟩
theorem create_ref {s s' : St} (hsim : SimS s s') (hs : StOk s) {o : Mo} (ho : MoOk o) : ∃ r : Res, F28.createR FUEL s'.enc o.enc (di (findI (fun f : Fl => decide (f.name = o.name)) s.files)) = some r.enc ∧ SimR (createM s o) r := by
  have hn := ho.name
  have hlen := hsim.files.len
  have l0 := hs.last0
  have l1 := hs.last1
  have h12 := hs.len
  have e1 : (o.enc.at 1).s = o.name := rfl
  have s0 : s'.enc.at 0 = dl s'.nn (s'.files.map Fl.enc) := rfl
  have s1 : (s'.enc.at 1).i = s.last := hsim.last
  unfold F28.createR createM
  rw [e1, s0, s1]
  by_cases h1 : nameB o.name = false
  · rw [if_pos h1]
    exact ⟨_, bdS (valid_ref _ (by omega)) (ct (by rw [h1]; rfl) rfl), stay_ref hsim 2⟩
  rw [if_neg h1]
  refine (fun ⟨r, a, b⟩ => ⟨r, bdS (valid_ref _ (by omega)) (cf (by simpa using h1) a), b⟩ : (∃ r : Res, _ ∧ _) → _) ?_
  by_cases h2 : 0 ≤ findI (fun f : Fl => decide (f.name = o.name)) s.files
  · rw [if_pos h2]
    exact ⟨_, ct (by simpa using h2) rfl, stay_ref hsim 4⟩
  rw [if_neg h2]
  refine (fun ⟨r, a, b⟩ => ⟨r, cf (by rw [i_int, geI_f]; omega) a, b⟩ : (∃ r : Res, _ ∧ _) → _) ?_
  by_cases h3 : 12 ≤ s.files.length
  · rw [if_pos h3]
    exact ⟨_, ct (by simp; omega) rfl, stay_ref hsim 10⟩
  rw [if_neg h3]
  refine (fun ⟨r, a, b⟩ => ⟨r, cf (by simp; omega) a, b⟩ : (∃ r : Res, _ ∧ _) → _) ?_
  by_cases h4 : 1099511627776 ≤ s.last
  · rw [if_pos h4]
    exact ⟨_, ct (by rw [geI_t]; omega) rfl, stay_ref hsim 10⟩
  rw [if_neg h4]
  refine (fun ⟨r, a, b⟩ => ⟨r, cf (by rw [geI_f]; omega) a, b⟩ : (∃ r : Res, _ ∧ _) → _) ?_
  have hadd : ad .i64 s.last 1 = s.last + 1 := by rw [ad64 (by omega) (by omega)]
  have hnew : newF (s.last + 1) o.name = (⟨s.last + 1, o.name, bs [], false, 0, false, []⟩, 0) := by
    unfold newF; rw [if_neg h1, if_pos (by omega)]
  have hnr := new_ref (s.last + 1) o.name (by omega)
  rw [hnew] at hnr
  rw [hadd]
  refine ⟨⟨⟨true, s'.files ++ [⟨s.last + 1, o.name, bs [], false, 0, false, []⟩], s.last + 1, s'.floor⟩, ⟨0, s.last + 1, bs [], zeroF, false, []⟩, true, [⟨0, s.last + 1, o.name, 0, 0, zeros⟩]⟩, bdS hnr (cf (by simp) (ct (by simp; omega) (ct (by simp; omega) ?_))), ⟨⟨?_, rfl, hsim.floor⟩, SimA.refl _, rfl⟩⟩
  · have e : ap (((s'.files.map Fl.enc).drop 0).take (s'.files.map Fl.enc).length) [Fl.enc ⟨s.last + 1, o.name, bs [], false, 0, false, []⟩] = (s'.files ++ [(⟨s.last + 1, o.name, bs [], false, 0, false, []⟩ : Fl)]).map Fl.enc := by
      rw [List.drop_zero, List.take_length, List.map_append]; rfl
    have e2 : ((((s'.files ++ [(⟨s.last + 1, o.name, bs [], false, 0, false, []⟩ : Fl)]).map Fl.enc).drop 0).take ((s'.files.map Fl.enc).length + 1)) = (s'.files ++ [(⟨s.last + 1, o.name, bs [], false, 0, false, []⟩ : Fl)]).map Fl.enc := by
      rw [List.drop_zero, List.take_of_length_le (by simp)]
    have e3 : (D.tup [Fl.enc ⟨s.last + 1, o.name, bs [], false, 0, false, []⟩, di 0]).at 0 = Fl.enc ⟨s.last + 1, o.name, bs [], false, 0, false, []⟩ := rfl
    rw [e3, elems_slice, e, e2, Bool.or_true, zeros_enc]
    rfl
  · unfold SimL
    rw [List.map_append, List.map_append, hsim.files]
theorem tick_ref {s s' : St} (hsim : SimS s s') (o : Mo) (r1 : D) : ∃ r : Res, F28.tickR FUEL s'.enc o.enc r1 = some r.enc ∧ SimR (tickM s o) r := by
  have e3 : (o.enc.at 3).i = o.time := rfl
  have s2 : (s'.enc.at 2).i = s.floor := hsim.floor
  have s2' : s'.enc.at 2 = di s.floor := congrArg di hsim.floor
  unfold F28.tickR tickM
  rw [e3, s2, s2']
  have hf : F53.s FUEL s.floor o.time = some (di (floorN s.floor o.time)) := floor_ref _ _
  generalize hX : floorN s.floor o.time = x at hf
  have ea : D.agg (s'.enc.parts.set 2 (di x)) = (St.enc { s' with floor := x }) := rfl
  have eb : (St.enc { s' with floor := x }).at 2 = di x := rfl
  by_cases h1 : x = s.floor
  · rw [if_pos h1]
    refine ⟨⟨{ s' with floor := x }, ⟨0, s.floor, bs [], zeroF, false, []⟩, false, []⟩, bdS hf ?_, ⟨⟨hsim.files, hsim.last, h1⟩, SimA.refl _, rfl⟩⟩
    rw [ea, eb]
    exact ct (by simpa using h1) rfl
  · rw [if_neg h1]
    refine ⟨⟨{ s' with floor := x }, ⟨0, x, bs [], zeroF, false, []⟩, true, [⟨7, 0, bs [], x, 0, zeros⟩]⟩, bdS hf ?_, ⟨⟨hsim.files, hsim.last, rfl⟩, SimA.refl _, rfl⟩⟩
    rw [ea, eb, zeros_enc]
    exact cf (by simpa using h1) rfl
theorem sim_filter {l l' : List Fl} (h : SimL l l') (floor : Int) : SimL (l.filter fun f => !decide (mayN f floor = 0)) (l'.filter fun f => !decide (mayN f floor = 0)) ∧ dueL l' floor = dueL l floor := by
  have e : ∀ l : List Fl, (l.filter fun f => !decide (mayN f floor = 0)).map (fun f => nnd f true) = (l.map fun f => nnd f true).filter fun f => !decide (mayN f floor = 0) := by
    intro l; rw [List.filter_map]; rfl
  have e2 : ∀ l : List Fl, dueL l floor = dueL (l.map fun f => nnd f true) floor := by
    intro l; unfold dueL; rw [List.filter_map, List.map_map]; rfl
  constructor
  · unfold SimL; rw [e, e, h]
  · rw [e2 l', e2 l, h]
theorem sweep_ref {s s' : St} (hsim : SimS s s') (hs : StOk s) (o : Mo) (r1 : D) : ∃ r : Res, F28.sweepR FUEL s'.enc o.enc r1 = some r.enc ∧ SimR (sweepM s) r := by
  have h12 := hs.len
  have hlen := hsim.files.len
  have hsf := sim_filter hsim.files s.floor
  have s0 : s'.enc.at 0 = dl s'.nn (s'.files.map Fl.enc) := rfl
  have s2 : (s'.enc.at 2).i = s.floor := hsim.floor
  unfold F28.sweepR
  refine goS_rule (fun t : F28.S29 => ∃ (k : Nat) (b28 b30 : Bool) (E L : List D), t = ⟨0, L.length, 0, E.length, (k : Int), s'.enc, o.enc, false, [], 0, 0, 0, 0, bs [], 0, bs [], bs [], false, 0, false, [], false, [], b28, E, b30, L⟩ ∧ k ≤ s'.files.length ∧ E.length ≤ k ∧ L.length ≤ k ∧ E = ((dueL (s'.files.take k) s.floor).map delEv).map Ev.enc ∧ L = ((s'.files.take k).filter fun f => !decide (mayN f s.floor = 0)).map Fl.enc) (fun t => s'.files.length - t.i9.toNat) (fun oo => ∃ r : Res, oo = some r.enc ∧ SimR (sweepM s) r) ?_ _ _ ⟨0, false, false, [], [], rfl, by omega, by simp, by simp, by simp [dueL], by simp⟩ (by simp [FUEL]; omega)
  rintro _ rec ⟨k, b28, b30, E, L, rfl, hk, hE, hL, hEe, hLe⟩ hrec
  simp only [F28.st29, s0, s2]
  have dE : ((E.drop 0).take E.length) = E := by rw [List.drop_zero, List.take_length]
  have dL : ((L.drop 0).take L.length) = L := by rw [List.drop_zero, List.take_length]
  rw [dE, dL]
  by_cases h1 : k < s'.files.length
  · have hadd : ad .i64 (k : Int) 1 = ((k + 1 : Nat) : Int) := by rw [ad64 (by omega) (by omega)]; rfl
    have hin : inb (k : Int) (dl s'.nn (s'.files.map Fl.enc)).elems.length = true := by simp; omega
    have hf : ix (dl s'.nn (s'.files.map Fl.enc)).elems (Int.toNat (k : Int)) = s'.files[k].enc := by rw [Int.toNat_natCast]; exact ix_map h1
    rw [condT (by simp; omega), condT hin, hf, hadd]
    have hm : F54.s FUEL s'.files[k].enc s.floor = some (di (mayN s'.files[k] s.floor)) := may_ref s'.files[k] s'.files[k].nn s.floor
    rw [hm, bd_some]
    have ht : s'.files.take (k + 1) = s'.files.take k ++ [s'.files[k]] := by rw [List.take_succ_eq_append_getElem h1]
    by_cases h2 : mayN s'.files[k] s.floor = 0
    · rw [condT (by simpa using h2), condT hin, condT (by simp; omega)]
      have hid : s'.files[k].enc.at 0 = di s'.files[k].id := rfl
      have e1 : ap E [da [di 6, s'.files[k].enc.at 0, dS (bs []), di 0, di 0, da (rp 32 (D.int .u8 0))]] = ((dueL (s'.files.take (k + 1)) s.floor).map delEv).map Ev.enc := by
        rw [hid, zeros_enc, hEe, ht]
        unfold dueL ap
        rw [List.filter_append, List.map_append, List.map_append, List.map_append]
        simp [h2]
        rfl
      have e2 : ((s'.files.take (k + 1)).filter fun f => !decide (mayN f s.floor = 0)) = ((s'.files.take k).filter fun f => !decide (mayN f s.floor = 0)) := by
        rw [ht, List.filter_append]; simp [h2]
      refine hrec _ ⟨k + 1, (b28 || true), b30, ap E [da [di 6, s'.files[k].enc.at 0, dS (bs []), di 0, di 0, da (rp 32 (D.int .u8 0))]], L, ?_, by omega, by simp [ap]; omega, by omega, e1, by rw [e2]; exact hLe⟩ (by simp; omega)
      simp [ap]
    · rw [condF (by simpa using h2), condT hin, condT (by simp; omega)]
      have e1 : dueL (s'.files.take (k + 1)) s.floor = dueL (s'.files.take k) s.floor := by
        rw [ht]; unfold dueL; rw [List.filter_append, List.map_append]; simp [h2]
      have e2 : ap L [s'.files[k].enc] = ((s'.files.take (k + 1)).filter fun f => !decide (mayN f s.floor = 0)).map Fl.enc := by
        rw [ht, List.filter_append, List.map_append, ← hLe]; simp [h2, ap]
      refine hrec _ ⟨k + 1, b28, (b30 || true), E, ap L [s'.files[k].enc], ?_, by omega, by omega, by simp [ap]; omega, by rw [e1]; exact hEe, e2⟩ (by simp; omega)
      simp [ap]
  · rw [condF (by simp; omega)]
    have hkl : k = s'.files.length := by omega
    rw [hkl, List.take_length] at hEe hLe
    refine ⟨⟨⟨b30, s'.files.filter fun f => !decide (mayN f s.floor = 0), s'.last, s'.floor⟩, ⟨0, (E.length : Int), bs [], zeroF, false, []⟩, b28, (dueL s'.files s.floor).map delEv⟩, ?_, ⟨⟨hsf.1, hsim.last, hsim.floor⟩, ?_, ?_⟩⟩
    · rw [hEe, hLe]; rfl
    · have : (E.length : Int) = ((dueL s.files s.floor).length : Int) := by rw [hEe, hsf.2]; simp
      rw [this]
      exact SimA.refl _
    · show (dueL s'.files s.floor).map delEv = (dueL s.files s.floor).map delEv
      rw [hsf.2]
theorem list_ref {s s' : St} (hsim : SimS s s') (hs : StOk s) (o : Mo) (r1 : D) : ∃ r : Res, F28.listR FUEL s'.enc o.enc r1 = some r.enc ∧ SimR (listM s) r := by
  have h12 := hs.len
  have hlen := hsim.files.len
  have hnm := hsim.files.names
  have hsz : ∀ f ∈ s'.files, f.name.size ≤ 1000 := by
    intro f hf
    have h1 : f.name ∈ s'.files.map (·.name) := List.mem_map.2 ⟨f, hf, rfl⟩
    rw [hnm] at h1
    obtain ⟨g, hg, e⟩ := List.mem_map.1 h1
    rw [← e]
    exact (hs.files g hg).nsz
  obtain ⟨b, hb⟩ := names_ref s' (by omega) hsz (by rw [hnm]; exact names_nodup hs)
  unfold F28.listR
  refine ⟨⟨s', ⟨0, 0, bs [], zeroF, b, sortN (s'.files.map (·.name))⟩, false, []⟩, bdS hb ?_, ⟨hsim, ⟨rfl, rfl, rfl, rfl, by rw [hnm]; rfl⟩, rfl⟩⟩
  rw [elems_slice, nn_slice, List.drop_zero, List.take_length]
  rfl
end Go.AM.SZ
namespace Go.AM.SZ
open Go Go.AM
theorem run_spec (s : St) (nn : Bool) (l : List Mo) (hs : StOk s) (hl : ∀ o ∈ l, MoOk o) (hlen : l.length ≤ 1000) : F8.s FUEL s.enc (dl nn (l.map Mo.enc)) = some (runM shaL s l).enc := by
  unfold F8.s
  refine goS_rule (fun t : F8.S4 => ∃ (k : Nat) (r : Run), t = ⟨0, k, 0, r.evs.length, dl nn (l.map Mo.enc), nI l.length, (k : Int), r.st.enc, false, [], 0, 0, r.nnA, r.ans.map An.enc, r.nnE, r.evs.map Ev.enc⟩ ∧ k ≤ l.length ∧ StOk r.st ∧ r.ans.length = k ∧ r.evs.length ≤ 12 * k ∧ runM shaL s l = runFrom shaL (l.drop k) r) (fun t => l.length - t.i7.toNat) (fun o => o = some (runM shaL s l).enc) ?_ _ _ ⟨0, run0 s, by simp [run0], by omega, hs, rfl, by simp [run0], by simp [runM]⟩ (by simp [FUEL]; omega)
  rintro _ rec ⟨k, r, rfl, hk, hr, hra, hre, hrun⟩ hrec
  simp only [F8.st4]
  by_cases h1 : k < l.length
  · have hadd : ad .i64 (k : Int) 1 = ((k + 1 : Nat) : Int) := by rw [ad64 (by omega) (by omega)]; rfl
    have ho := hl _ (List.getElem_mem h1)
    have hev := do_evs_len (sum := shaL) (o := l[k]) hr
    refine ct (by simp; omega) (ct (by simp; omega) ?_)
    simp only [elems_slice, Int.toNat_natCast, ix_map h1]
    refine bdS (do_specM r.st l[k] hr ho) ?_
    rw [List.drop_eq_getElem_cons h1, runFrom] at hrun
    refine ct (by simp; omega) (ct (by show mx (r.evs.length + ((doM shaL r.st l[k]).evs.map Ev.enc).length) = true; simp; omega) ?_)
    rw [hadd]
    refine hrec _ ⟨k + 1, _, ?_, by omega, do_ok hr ho, by simp [hra], by simp; omega, hrun⟩ ?_
    · rw [F8.S4.mk.injEq]
      refine ⟨rfl, rfl, rfl, ?_, rfl, rfl, rfl, rfl, rfl, rfl, rfl, rfl, ?_, ?_, ?_, ?_⟩
      · show r.evs.length + ((doM shaL r.st l[k]).evs.map Ev.enc).length = (r.evs ++ (doM shaL r.st l[k]).evs).length
        simp
      · simp
      · show ap (((r.ans.map An.enc).drop 0).take k) [(doM shaL r.st l[k]).an.enc] = (r.ans ++ [(doM shaL r.st l[k]).an]).map An.enc
        rw [List.drop_zero, List.take_of_length_le (by simp [hra]), ap, List.map_append]
        rfl
      · show (r.nnE || !((doM shaL r.st l[k]).evs.map Ev.enc).isEmpty) = (r.nnE || !(doM shaL r.st l[k]).evs.isEmpty)
        simp
      · show ap (((r.evs.map Ev.enc).drop 0).take r.evs.length) ((doM shaL r.st l[k]).evs.map Ev.enc) = (r.evs ++ (doM shaL r.st l[k]).evs).map Ev.enc
        rw [List.drop_zero, List.take_of_length_le (by simp), ap, List.map_append]
    · dsimp only; omega
  · refine cf (by simp; omega) ?_
    rw [List.drop_of_length_le (by omega), runFrom] at hrun
    rw [hrun]
    show some (D.tup [r.st.enc, dl r.nnA (((r.ans.map An.enc).drop 0).take k), dl r.nnE (((r.evs.map Ev.enc).drop 0).take r.evs.length)]) = _
    rw [List.drop_zero, List.drop_zero, List.take_of_length_le (by simp [hra]), List.take_of_length_le (by simp)]
    rfl
end Go.AM.SZ
namespace Go.AM.SZ
open Go Go.AM
theorem within_specM (n h : Int) : F47.s FUEL n h = some (db (decide (0 ≤ n) && decide (n ≤ h))) := by
  unfold F47.s
  by_cases h0 : 0 ≤ n
  · exact ct (by simpa using h0) (by simp [h0, leI])
  · exact cf (by simp; omega) (by simp [h0])
theorem valid_file {f : Fl} {last : Int} (hf : FlOk f last) (hl : last ≤ 1099511627776) : F48.s FUEL f.enc = some (db true) := by
  have i0 := hf.id0
  have i1 := hf.id1
  have u0 := hf.until0
  have u1 := hf.until1
  have hns := hf.nsz
  have hda := hf.data
  have hho := hf.hold
  unfold F48.s
  refine bdS (numbered_spec f.id) (cf ?_ (bdS (name_spec f.name (by omega)) (cf ?_ (cf ?_ (cf ?_ (cf ?_ (cf ?_ ?_)))))))
  · show (!(decide (1 ≤ f.id) && decide (f.id ≤ 1099511627776))) = false
    simp; omega
  · show (!nameB f.name) = false
    simp [hf.name]
  · show gtI (nI f.data.size) 600 = false
    simp; omega
  · show ltI f.until_ 0 = false
    simp; omega
  · show gtI f.until_ 1099511627776 = false
    simp; omega
  · show gtI (nI (f.holds.map dS).length) 4 = false
    simp; omega
  have h3 : (f.enc.at 3).b = f.sealed := rfl
  have h4 : (f.enc.at 4).i = f.until_ := rfl
  have h5 : f.enc.at 5 = dl f.nn (f.holds.map dS) := rfl
  rw [h3, h4, h5]
  by_cases hse : f.sealed = true
  · refine cf (by simp [hse]) ?_
    refine goS_rule (fun t : F48.S6 => ∃ k : Nat, t = ⟨dl f.nn (f.holds.map dS), nI (f.holds.map dS).length, (k : Int), f.enc⟩ ∧ k ≤ f.holds.length) (fun t => f.holds.length - t.i5.toNat) (fun o => o = some (db true)) ?_ _ _ ⟨0, rfl, by omega⟩ (by simp [FUEL]; omega)
    rintro _ rec ⟨k, rfl, hk⟩ hrec
    simp only [F48.st6]
    by_cases h1 : k < f.holds.length
    · have hadd : ad .i64 (k : Int) 1 = ((k + 1 : Nat) : Int) := by rw [ad64 (by omega) (by omega)]; rfl
      have hkz := hf.hsz _ (List.getElem_mem h1)
      refine ct (by simp; omega) (ct (by simp; omega) ?_)
      simp only [elems_slice, Int.toNat_natCast, ix_map h1]
      refine bdS (name_spec f.holds[k] (by omega)) (cf (by show (!nameB f.holds[k]) = false; simp [hf.hname _ (List.getElem_mem h1)]) ?_)
      have fin : rec ⟨dl f.nn (f.holds.map dS), nI (f.holds.map dS).length, ad .i64 (k : Int) 1, f.enc⟩ = some (db true) := by
        rw [hadd]
        exact hrec _ ⟨k + 1, rfl, by omega⟩ (by simp; omega)
      by_cases h0 : 0 < k
      · have hsub : sb .i64 (k : Int) 1 = ((k - 1 : Nat) : Int) := by rw [sb64 (by omega) (by omega)]; omega
        have hk1 : k - 1 < f.holds.length := by omega
        have hkz1 := hf.hsz _ (List.getElem_mem hk1)
        refine ct (by simp; omega) (ct (by rw [h5, hsub]; simp; omega) ?_)
        rw [h5, hsub]
        simp only [elems_slice, Int.toNat_natCast, ix_map hk1]
        have hlt : lessB f.holds[k - 1] f.holds[k] = true := (List.pairwise_iff_getElem.1 hf.rise) (k - 1) k hk1 h1 (by omega)
        refine bdS (less_spec _ _ (by show f.holds[k-1].size ≤ _; omega) (by show f.holds[k].size ≤ _; omega)) (cf (by rw [show (dS f.holds[k-1]).s = f.holds[k-1] from rfl, show (dS f.holds[k]).s = f.holds[k] from rfl, hlt]; rfl) fin)
      · exact cf (by simp; omega) fin
    · exact cf (by simp; omega) rfl
  · obtain ⟨e1, e2⟩ := hf.opn (by simpa using hse)
    refine ct (by simpa using hse) (ct (by simp [e1]) ?_)
    rw [e2]; rfl
theorem valid_state {s : St} (hs : StOk s) : F26.s FUEL s.enc = some (db true) := by
  have hl := hs.len
  have l0 := hs.last0
  have l1 := hs.last1
  have f0 := hs.floor0
  have f1 := hs.floor1
  unfold F26.s
  have h0 : s.enc.at 0 = dl s.nn (s.files.map Fl.enc) := rfl
  have hla : (s.enc.at 1).i = s.last := rfl
  have hfl : (s.enc.at 2).i = s.floor := rfl
  rw [h0, hla, hfl]
  refine cf (by simp; omega) (bdS (within_specM _ _) (cf (by simp; omega) (bdS (within_specM _ _) (cf (by simp; omega) ?_))))
  refine goS_rule (fun t : F26.S4 => ∃ k : Nat, t = ⟨dl s.nn (s.files.map Fl.enc), nI s.files.length, (k : Int), s.enc⟩ ∧ k ≤ s.files.length) (fun t => s.files.length - t.i5.toNat) (fun o => o = some (db true)) ?_ _ _ ⟨0, by simp, by omega⟩ (by simp [FUEL]; omega)
  rintro _ rec ⟨k, rfl, hk⟩ hrec
  simp only [F26.st4]
  by_cases h1 : k < s.files.length
  · have hadd : ad .i64 (k : Int) 1 = ((k + 1 : Nat) : Int) := by rw [ad64 (by omega) (by omega)]; rfl
    have hf := hs.files _ (List.getElem_mem h1)
    have i1 := hf.id1
    have hns := hf.nsz
    refine ct (by simp; omega) (ct (by simp; omega) ?_)
    simp only [elems_slice, Int.toNat_natCast, ix_map h1]
    refine bdS (valid_file hf hs.last1) (cf rfl (cf (by show gtI s.files[k].id s.last = false; simp; omega) ?_))
    have hfind : findI (fun f : Fl => decide (f.name = s.files[k].name)) s.files = (k : Int) := by
      refine findI_some (findIdx_some_of h1 (fun i hi hik => ?_) (by simp))
      have := (List.pairwise_iff_getElem.1 hs.names) i k hi h1 hik
      simpa using this
    refine bdS (find_specM s s.files[k].name (by omega)) (cf (by rw [hfind]; simp) ?_)
    have fin : rec ⟨dl s.nn (s.files.map Fl.enc), nI s.files.length, ad .i64 (k : Int) 1, s.enc⟩ = some (db true) := by
      rw [hadd]
      exact hrec _ ⟨k + 1, rfl, by omega⟩ (by simp; omega)
    by_cases hk0 : 0 < k
    · have hsub : sb .i64 (k : Int) 1 = ((k - 1 : Nat) : Int) := by rw [sb64 (by omega) (by omega)]; omega
      have hk1 : k - 1 < s.files.length := by omega
      have hlt := (List.pairwise_iff_getElem.1 hs.rise) (k - 1) k hk1 h1 (by omega)
      refine ct (by simp; omega) (ct (by rw [h0, hsub]; simp; omega) (cf ?_ fin))
      rw [h0, hsub]
      simp only [elems_slice, Int.toNat_natCast, ix_map hk1]
      show geI s.files[k - 1].id s.files[k].id = false
      simp; omega
    · exact cf (by simp; omega) fin
  · exact cf (by simp; omega) rfl
theorem same_state {s : St} (hs : StOk s) : F27.s FUEL s.enc s.enc = some (db true) := by
  have hl := hs.len
  unfold F27.s
  have h0 : s.enc.at 0 = dl s.nn (s.files.map Fl.enc) := rfl
  rw [h0]
  refine ct (by simp) (ct (by simp) (cf (by simp) ?_))
  refine goS_rule (fun t : F27.S49_4 => ∃ k : Nat, t = ⟨dl s.nn (s.files.map Fl.enc), dl s.nn (s.files.map Fl.enc), nI s.files.length, (k : Int), s.enc, s.enc⟩ ∧ k ≤ s.files.length) (fun t => s.files.length - t.i4.toNat) (fun o => o = some (db true)) ?_ _ _ ⟨0, by simp, by omega⟩ (by simp [FUEL]; omega)
  rintro _ rec ⟨k, rfl, hk⟩ hrec
  simp only [F27.st49_4]
  by_cases h1 : k < s.files.length
  · have hadd : ad .i64 (k : Int) 1 = ((k + 1 : Nat) : Int) := by rw [ad64 (by omega) (by omega)]; rfl
    have hf := (hs.files _ (List.getElem_mem h1)).hold
    refine ct (by simp; omega) (ct (by simp; omega) (ct (by simp; omega) ?_))
    simp only [elems_slice, Int.toNat_natCast, ix_map h1]
    refine bdS (same_file _ (by omega)) (cf rfl ?_)
    rw [hadd]
    exact hrec _ ⟨k + 1, rfl, by omega⟩ (by simp; omega)
  · exact cf (by simp; omega) rfl
def exOps : List Mo := [⟨0, bs [97], bs [], 0, 0, 0⟩, ⟨1, bs [97], bs [97, 98], 0, 0, 0⟩, ⟨2, bs [97], bs [], 5, 0, 0⟩, ⟨7, bs [], bs [], 5, 0, 0⟩]
def exF : Fl := ⟨1, bs [97], bs [97, 98], true, 5, false, []⟩
def exS : St := ⟨true, [exF], 1, 5⟩
set_option maxRecDepth 100000 in
theorem ex_run (sum : ByteArray → List Int) : runM sum emptyS exOps = ⟨exS, true, [⟨0, 1, bs [], zeroF, false, []⟩, ⟨0, 2, bs [], zeroF, false, []⟩, ⟨0, 2, bs [], zeroF, false, []⟩, ⟨0, 5, bs [], zeroF, false, []⟩], true,
    [⟨0, 1, bs [97], 0, 0, zeros⟩, ⟨1, 1, bs [], 0, 2, zeros⟩, ⟨2, 1, bs [], 5, 2, sum (bs [97, 98])⟩, ⟨7, 0, bs [], 5, 0, zeros⟩]⟩ := by kernel_rfl
set_option maxRecDepth 100000 in
theorem ex_read (sum : ByteArray → List Int) : doM sum exS ⟨9, bs [97], bs [], 0, 0, 2⟩ = ⟨exS, ⟨0, 0, bs [97, 98], zeroF, false, []⟩, false, []⟩ := by kernel_rfl
set_option maxRecDepth 100000 in
theorem ex_sweep (sum : ByteArray → List Int) : doM sum exS ⟨8, bs [], bs [], 0, 0, 0⟩ = ⟨⟨true, [], 1, 5⟩, ⟨0, 1, bs [], zeroF, false, []⟩, true, [delEv 1]⟩ := by kernel_rfl
theorem ex_ok : ∀ o ∈ exOps, MoOk o := by
  intro o ho
  simp only [exOps, List.mem_cons, List.not_mem_nil, or_false] at ho
  rcases ho with rfl | rfl | rfl | rfl <;> exact ⟨by simp [i64ok], by simp [i64ok], by simp [i64ok], by simp [i64ok], by show (bs _).size ≤ 1000; simp [bs, ByteArray.size], by show (bs _).size ≤ 1000; simp [bs, ByteArray.size]⟩
theorem exS_ok : StOk exS := by
  have := runFrom_ok (sum := fun _ => zeros) (l := exOps) (r := run0 emptyS) emptyS_ok ex_ok
  have h := ex_run (fun _ => zeros)
  unfold runM at h
  rw [h] at this
  exact this
theorem works_M : F6.s FUEL = some (db true) := by
  unfold F6.s
  refine bdS (x := (runM shaL emptyS exOps).enc) (run_spec emptyS true exOps emptyS_ok ex_ok (by simp [exOps])) ?_
  rw [ex_run]
  refine cf rfl (cf rfl (bdS (find_specM exS (bs [97]) (by simp [exS])) (cf rfl ?_)))
  have ho1 : MoOk ⟨9, bs [97], bs [], 0, 0, 2⟩ := ⟨by simp [i64ok], by simp [i64ok], by simp [i64ok], by simp [i64ok], by show (bs _).size ≤ 1000; simp [bs, ByteArray.size], by show (bs _).size ≤ 1000; simp [bs, ByteArray.size]⟩
  have ho2 : MoOk ⟨8, bs [], bs [], 0, 0, 0⟩ := ⟨by simp [i64ok], by simp [i64ok], by simp [i64ok], by simp [i64ok], by show (bs _).size ≤ 1000; simp [bs, ByteArray.size], by show (bs _).size ≤ 1000; simp [bs, ByteArray.size]⟩
  refine bdS (do_specM exS _ exS_ok ho1) (bdS (do_specM exS _ exS_ok ho2) ?_)
  rw [ex_read, ex_sweep]
  refine ct rfl (ct rfl (ct rfl (ct rfl (ct rfl (ct rfl (ct (by simp [Res.enc, An.enc]) (ct rfl (ct rfl (ct rfl ?_)))))))))
  refine bdS (x := db true) ?_ (ct rfl (ct rfl (ct rfl (ct rfl (bdS (valid_state exS_ok) (ct rfl (bdS (same_state exS_ok) (ct rfl (bdS (x := db false) ?_ rfl)))))))))
  · show (match D.eqv ty eqDepth (delEv 1).enc (delEv 1).enc (.struct [50, 3, 9, 3, 3, 56]) with | some z => some (D.bool z) | none => none) = _
    rw [eqv_ev rfl rfl, evEq_self]
  · rfl
end Go.AM.SZ
namespace Go.AM.SZ
open Go Go.AM
theorem sim_erase {l l' : List Fl} (h : SimL l l') (i : Nat) : SimL (l.eraseIdx i) (l'.eraseIdx i) := by
  unfold SimL; rw [← eraseIdx_map', ← eraseIdx_map', h]
theorem sim_set {l l' : List Fl} (h : SimL l l') (i : Nat) {g g' : Fl} (hg : nnd g' true = nnd g true) : SimL (l.set i g) (l'.set i g') := by
  unfold SimL; rw [List.map_set, List.map_set, h, hg]
def needM (s : St) (o : Mo) : Res := if o.kind = 9 then readM s o else if o.kind = 10 then statM s o else changeM shaL s o
theorem tail_ref {s s' : St} (hsim : SimS s s') (hs : StOk s) {o : Mo} (ho : MoOk o) :
    ∃ r : Res, F28.tailR FUEL s'.enc o.enc (di (findI (fun f : Fl => decide (f.name = o.name)) s.files)) = some r.enc ∧ SimR (needM s o) r := by
  have h12 := hs.len
  have hlen := hsim.files.len
  have k0 : (o.enc.at 0).i = o.kind := rfl
  have k4 : (o.enc.at 4).i = o.a := rfl
  have k5 : (o.enc.at 5).i = o.b := rfl
  have s0 : s'.enc.at 0 = dl s'.nn (s'.files.map Fl.enc) := rfl
  have s2 : (s'.enc.at 2).i = s.floor := hsim.floor
  unfold F28.tailR
  rw [k0, k4, k5, s0, s2]
  cases hx : s.files.findIdx? (fun f : Fl => decide (f.name = o.name)) with
  | none =>
    have hM : findM s o.name = none := hx
    rw [findI_none hx]
    refine ⟨⟨s', wrongA 3, false, []⟩, ct (by simp) rfl, ?_⟩
    have : needM s o = stay s 3 := by
      unfold needM readM statM changeM
      rw [hM]
      dsimp only
      split <;> (try split) <;> rfl
    rw [this]
    exact stay_ref hsim 3
  | some i =>
    have hM : findM s o.name = some i := hx
    have hi := findIdx_lt hx
    have hi' : i < s'.files.length := by omega
    have hg : s.files[i]? = some s.files[i] := List.getElem?_eq_getElem hi
    have hf := hs.files _ (List.getElem_mem hi)
    have hff := hsim.files.get hi hi'
    rw [findI_some hx]
    have hix : ix (dl s'.nn (s'.files.map Fl.enc)).elems ((di (i : Int)).i).toNat = (nnd s.files[i] s'.files[i].nn).enc := by
      rw [elems_slice, i_int, Int.toNat_natCast, ix_map hi', hff]
      rfl
    rw [hix]
    generalize s'.files[i].nn = b
    refine (fun ⟨r, x, y⟩ => ⟨r, cf (by simp) (ct (by simp; omega) x), y⟩ : (∃ r : Res, _ ∧ _) → _) ?_
    by_cases h9 : o.kind = 9
    · have hR : needM s o = ⟨s, ⟨(readF s.files[i] o.a o.b).2, 0, (readF s.files[i] o.a o.b).1, zeroF, false, []⟩, false, []⟩ := by
        unfold needM readM
        rw [if_pos h9, hM]
        dsimp only
        rw [hg]
      rw [hR]
      exact ⟨⟨s', ⟨(readF s.files[i] o.a o.b).2, 0, (readF s.files[i] o.a o.b).1, zeroF, false, []⟩, false, []⟩, ct (by simpa using h9) (bdS (read_ref s.files[i] b o.a o.b) rfl), ⟨hsim, SimA.refl _, rfl⟩⟩
    refine (fun ⟨r, x, y⟩ => ⟨r, cf (by simpa using h9) x, y⟩ : (∃ r : Res, _ ∧ _) → _) ?_
    by_cases h10 : o.kind = 10
    · have hR : needM s o = ⟨s, ⟨0, 0, bs [], metaF s.files[i], false, []⟩, false, []⟩ := by
        unfold needM statM
        rw [if_neg h9, if_pos h10, hM]
        dsimp only
        rw [hg]
      rw [hR]
      exact ⟨⟨s', ⟨0, 0, bs [], metaF (nnd s.files[i] b), false, []⟩, false, []⟩, ct (by simpa using h10) rfl, ⟨hsim, ⟨rfl, rfl, rfl, rfl, rfl⟩, rfl⟩⟩
    refine (fun ⟨r, x, y⟩ => ⟨r, cf (by simpa using h10) x, y⟩ : (∃ r : Res, _ ∧ _) → _) ?_
    have hR : needM s o = if (fileDo shaL s.files[i] o s.floor).2.2 = 0 then
        if o.kind = 6 then ⟨{ s with files := s.files.eraseIdx i }, ⟨0, (fileDo shaL s.files[i] o s.floor).2.1.id, bs [], zeroF, false, []⟩, true, [(fileDo shaL s.files[i] o s.floor).2.1]⟩
        else ⟨{ s with files := s.files.set i (fileDo shaL s.files[i] o s.floor).1 }, ⟨0, ((fileDo shaL s.files[i] o s.floor).1.data.size : Int), bs [], zeroF, false, []⟩, true, [(fileDo shaL s.files[i] o s.floor).2.1]⟩
      else stay s (fileDo shaL s.files[i] o s.floor).2.2 := by
      unfold needM changeM
      rw [if_neg h9, if_neg h10, hM]
      dsimp only
      rw [hg]
    rw [hR]
    obtain ⟨c, hc⟩ := file_ref s.files[i] b o s.floor s.last hf ho
    have hid : (fileDo shaL s.files[i] o s.floor).2.2 = 0 → (fileDo shaL s.files[i] o s.floor).2.1.id = s.files[i].id := by
      unfold fileDo
      split
      · intro _; rfl
      · rename_i hne; intro h; exact absurd h hne
    generalize fileDo shaL s.files[i] o s.floor = FD at hc hid
    obtain ⟨g, ev, e⟩ := FD
    dsimp only at hc hid ⊢
    refine (fun ⟨r, x, y⟩ => ⟨r, bdS hc x, y⟩ : (∃ r : Res, _ ∧ _) → _) ?_
    by_cases he : e = 0
    · rw [if_pos he]
      refine (fun ⟨r, x, y⟩ => ⟨r, cf (by show neI e 0 = false; simpa using he) x, y⟩ : (∃ r : Res, _ ∧ _) → _) ?_
      by_cases h6 : o.kind = 6
      · rw [if_pos h6]
        obtain ⟨b', hb'⟩ := with_ref s' i hi' (by omega) (nnd g c) true
        have h6' : eqI o.kind 6 = true := by simpa using h6
        refine ⟨⟨⟨b', s'.files.eraseIdx i, s'.last, s'.floor⟩, ⟨0, s.files[i].id, bs [], zeroF, false, []⟩, true, [ev]⟩, ct h6' (bdS (by rw [h6']; exact hb') rfl), ⟨⟨sim_erase hsim.files i, hsim.last, hsim.floor⟩, ?_, rfl⟩⟩
        rw [hid he]
        exact SimA.refl _
      · rw [if_neg h6]
        obtain ⟨b', hb'⟩ := with_ref s' i hi' (by omega) (nnd g c) false
        have h6' : eqI o.kind 6 = false := by simpa using h6
        exact ⟨⟨⟨b', s'.files.set i (nnd g c), s'.last, s'.floor⟩, ⟨0, (g.data.size : Int), bs [], zeroF, false, []⟩, true, [ev]⟩, cf h6' (bdS (by rw [h6']; exact hb') rfl), ⟨⟨sim_set hsim.files i rfl, hsim.last, hsim.floor⟩, SimA.refl _, rfl⟩⟩
    · rw [if_neg he]
      exact ⟨⟨s', wrongA e, false, []⟩, ct (by show neI e 0 = true; simpa using he) rfl, stay_ref hsim e⟩
theorem do_ref {s s' : St} (hsim : SimS s s') (hs : StOk s) {o : Mo} (ho : MoOk o) : ∃ r : Res, F28.s FUEL s'.enc o.enc = some r.enc ∧ SimR (doM shaL s o) r := by
  have h12 := hs.len
  have hlen := hsim.files.len
  have k0 : (o.enc.at 0).i = o.kind := rfl
  have e1 : (o.enc.at 1).s = o.name := rfl
  unfold F28.s
  rw [e1, k0]
  have hfind := find_ref s' o.name (by omega)
  rw [hsim.files.find] at hfind
  refine (fun ⟨r, x, y⟩ => ⟨r, bdS hfind x, y⟩ : (∃ r : Res, _ ∧ _) → _) ?_
  have htail := tail_ref hsim hs ho
  by_cases h0 : o.kind = 0
  · obtain ⟨r, x, y⟩ := create_ref hsim hs ho
    have hR : doM shaL s o = createM s o := by unfold doM; rw [if_neg (by omega), if_neg (by omega), if_pos h0]
    exact ⟨r, ct (by simpa using h0) x, by rw [hR]; exact y⟩
  refine (fun ⟨r, x, y⟩ => ⟨r, cf (by simpa using h0) x, y⟩ : (∃ r : Res, _ ∧ _) → _) ?_
  by_cases h7 : o.kind = 7
  · obtain ⟨r, x, y⟩ := tick_ref hsim o (di (findI (fun f : Fl => decide (f.name = o.name)) s.files))
    have hR : doM shaL s o = tickM s o := by unfold doM; rw [if_neg (by omega), if_neg (by omega), if_neg h0, if_pos h7]
    exact ⟨r, ct (by simpa using h7) x, by rw [hR]; exact y⟩
  refine (fun ⟨r, x, y⟩ => ⟨r, cf (by simpa using h7) x, y⟩ : (∃ r : Res, _ ∧ _) → _) ?_
  by_cases h8 : o.kind = 8
  · obtain ⟨r, x, y⟩ := sweep_ref hsim hs o (di (findI (fun f : Fl => decide (f.name = o.name)) s.files))
    have hR : doM shaL s o = sweepM s := by unfold doM; rw [if_neg (by omega), if_neg (by omega), if_neg h0, if_neg h7, if_pos h8]
    exact ⟨r, ct (by simpa using h8) x, by rw [hR]; exact y⟩
  refine (fun ⟨r, x, y⟩ => ⟨r, cf (by simpa using h8) x, y⟩ : (∃ r : Res, _ ∧ _) → _) ?_
  by_cases h11 : o.kind = 11
  · obtain ⟨r, x, y⟩ := list_ref hsim hs o (di (findI (fun f : Fl => decide (f.name = o.name)) s.files))
    have hR : doM shaL s o = listM s := by unfold doM; rw [if_neg (by omega), if_neg (by omega), if_neg h0, if_neg h7, if_neg h8, if_neg (by omega), if_neg (by omega), if_pos h11]
    exact ⟨r, ct (by simpa using h11) x, by rw [hR]; exact y⟩
  refine (fun ⟨r, x, y⟩ => ⟨r, cf (by simpa using h11) x, y⟩ : (∃ r : Res, _ ∧ _) → _) ?_
  have hneed : (1 ≤ o.kind ∧ o.kind ≤ 10) → doM shaL s o = needM s o := by
    intro h
    unfold doM needM
    rw [if_neg (by omega), if_neg (by omega), if_neg h0, if_neg h7, if_neg h8]
    by_cases h9 : o.kind = 9
    · rw [if_pos h9, if_pos h9]
    rw [if_neg h9, if_neg h9]
    by_cases h10 : o.kind = 10
    · rw [if_pos h10, if_pos h10]
    rw [if_neg h10, if_neg h10, if_neg h11]
  obtain ⟨r, x, y⟩ := htail
  by_cases h1 : o.kind = 1
  · exact ⟨r, ct (by simpa using h1) (ct (by simpa using h1) x), by rw [hneed (by omega)]; exact y⟩
  refine (fun ⟨r, x, y⟩ => ⟨r, cf (by simpa using h1) x, y⟩ : (∃ r : Res, _ ∧ _) → _) ?_
  by_cases h2 : o.kind = 2
  · exact ⟨r, ct (by simpa using h2) (ct (by simpa using h2) x), by rw [hneed (by omega)]; exact y⟩
  refine (fun ⟨r, x, y⟩ => ⟨r, cf (by simpa using h2) x, y⟩ : (∃ r : Res, _ ∧ _) → _) ?_
  by_cases h3 : o.kind = 3
  · exact ⟨r, ct (by simpa using h3) (ct (by simpa using h3) x), by rw [hneed (by omega)]; exact y⟩
  refine (fun ⟨r, x, y⟩ => ⟨r, cf (by simpa using h3) x, y⟩ : (∃ r : Res, _ ∧ _) → _) ?_
  by_cases h4 : o.kind = 4
  · exact ⟨r, ct (by simpa using h4) (ct (by simpa using h4) x), by rw [hneed (by omega)]; exact y⟩
  refine (fun ⟨r, x, y⟩ => ⟨r, cf (by simpa using h4) x, y⟩ : (∃ r : Res, _ ∧ _) → _) ?_
  by_cases h5 : o.kind = 5
  · exact ⟨r, ct (by simpa using h5) (ct (by simpa using h5) x), by rw [hneed (by omega)]; exact y⟩
  refine (fun ⟨r, x, y⟩ => ⟨r, cf (by simpa using h5) x, y⟩ : (∃ r : Res, _ ∧ _) → _) ?_
  by_cases h6 : o.kind = 6
  · exact ⟨r, ct (by simpa using h6) (ct (by simpa using h6) x), by rw [hneed (by omega)]; exact y⟩
  refine (fun ⟨r, x, y⟩ => ⟨r, cf (by simpa using h6) x, y⟩ : (∃ r : Res, _ ∧ _) → _) ?_
  by_cases h9 : o.kind = 9
  · exact ⟨r, ct (by simpa using h9) (ct (by simpa using h9) x), by rw [hneed (by omega)]; exact y⟩
  refine (fun ⟨r, x, y⟩ => ⟨r, cf (by simpa using h9) x, y⟩ : (∃ r : Res, _ ∧ _) → _) ?_
  by_cases h10 : o.kind = 10
  · exact ⟨r, ct (by simpa using h10) x, by rw [hneed (by omega)]; exact y⟩
  refine ⟨⟨s', wrongA 1, false, []⟩, cf (by simpa using h10) rfl, ?_⟩
  have hR : doM shaL s o = stay s 1 := by
    unfold doM
    by_cases h : o.kind < 0
    · rw [if_pos h]
    · rw [if_neg h, if_pos (by omega)]
  rw [hR]
  exact stay_ref hsim 1
def SimAs (l l' : List An) : Prop := l'.length = l.length ∧ ∀ i (h : i < l.length) (h' : i < l'.length), SimA l[i] l'[i]
theorem SimAs.snoc {l l' : List An} (h : SimAs l l') {a a' : An} (ha : SimA a a') : SimAs (l ++ [a]) (l' ++ [a']) := by
  refine ⟨by simp [h.1], fun i h1 h2 => ?_⟩
  have hl := h.1
  by_cases hi : i < l.length
  · rw [List.getElem_append_left hi, List.getElem_append_left (by omega)]
    exact h.2 i hi (by omega)
  · have : i = l.length := by simp at h1; omega
    subst this
    rw [List.getElem_append_right (by omega), List.getElem_append_right (by omega)]
    simp only [hl, Nat.sub_self, List.getElem_cons_zero]
    exact ha
theorem run_ref (s s' : St) (hsim : SimS s s') (nn : Bool) (l : List Mo) (hs : StOk s) (hl : ∀ o ∈ l, MoOk o) (hlen : l.length ≤ 1000) :
    ∃ (t' : St) (as' : List An) (nA nE : Bool), F9.s FUEL s'.enc (dl nn (l.map Mo.enc)) = some (.tup [t'.enc, dl nA (as'.map An.enc), dl nE ((runM shaL s l).evs.map Ev.enc)]) ∧ SimS (runM shaL s l).st t' ∧ SimAs (runM shaL s l).ans as' := by
  unfold F9.s
  refine goS_rule (fun t : F9.S4 => ∃ (k : Nat) (r : Run) (t' : St) (as' : List An) (nA nE : Bool), t = ⟨dl nn (l.map Mo.enc), 0, k, 0, r.evs.length, (k : Int), t'.enc, false, [], 0, 0, nA, as'.map An.enc, nE, r.evs.map Ev.enc⟩ ∧ k ≤ l.length ∧ StOk r.st ∧ r.ans.length = k ∧ r.evs.length ≤ 12 * k ∧ runM shaL s l = runFrom shaL (l.drop k) r ∧ SimS r.st t' ∧ SimAs r.ans as') (fun t => l.length - t.i6.toNat)
    (fun o => ∃ (t' : St) (as' : List An) (nA nE : Bool), o = some (.tup [t'.enc, dl nA (as'.map An.enc), dl nE ((runM shaL s l).evs.map Ev.enc)]) ∧ SimS (runM shaL s l).st t' ∧ SimAs (runM shaL s l).ans as') ?_ _ _ ⟨0, run0 s, s', [], false, false, rfl, by omega, hs, rfl, by simp [run0], by simp [runM], hsim, ⟨rfl, fun i h => by simp [run0] at h⟩⟩ (by simp [FUEL]; omega)
  rintro _ rec ⟨k, r, t', as', nA, nE, rfl, hk, hr, hra, hre, hrun, hst, has⟩ hrec
  simp only [F9.st4]
  have hal := has.1
  by_cases h1 : k < l.length
  · have hadd : ad .i64 (k : Int) 1 = ((k + 1 : Nat) : Int) := by rw [ad64 (by omega) (by omega)]; rfl
    have ho := hl _ (List.getElem_mem h1)
    have hev := do_evs_len (sum := shaL) (o := l[k]) hr
    obtain ⟨rr, x, y⟩ := do_ref hst hr ho
    have hix : ix (dl nn (l.map Mo.enc)).elems (Int.toNat (k : Int)) = (l[k]).enc := by rw [elems_slice, Int.toNat_natCast]; exact ix_map h1
    have hl1 : (rr.enc.at 2).elems = rr.evs.map Ev.enc := rfl
    rw [condT (by simp; omega), condT (by simp; omega), hix, x, bd_some, hl1]
    rw [List.drop_eq_getElem_cons h1, runFrom] at hrun
    have hee : rr.evs = (doM shaL r.st l[k]).evs := y.evs
    rw [hadd, condT (by simp; omega), condT (by rw [hee]; simp; omega)]
    refine hrec _ ⟨k + 1, _, rr.st, as' ++ [rr.an], (nA || true), (nE || (!(rr.evs.map Ev.enc).isEmpty)), ?_, by omega, do_ok hr ho, by simp [hra], by simp; omega, hrun, y.st, has.snoc y.an⟩ ?_
    · rw [F9.S4.mk.injEq]
      refine ⟨rfl, rfl, rfl, rfl, ?_, rfl, rfl, rfl, rfl, rfl, rfl, rfl, ?_, rfl, ?_⟩
      · rw [hee]; simp
      · show ap (((as'.map An.enc).drop 0).take k) [rr.an.enc] = (as' ++ [rr.an]).map An.enc
        rw [List.drop_zero, List.take_of_length_le (by simp; omega), ap, List.map_append]
        rfl
      · show ap (((r.evs.map Ev.enc).drop 0).take r.evs.length) (rr.evs.map Ev.enc) = (r.evs ++ (doM shaL r.st l[k]).evs).map Ev.enc
        rw [List.drop_zero, List.take_of_length_le (by simp), ap, List.map_append, hee]
    · dsimp only; omega
  · rw [condF (by simp; omega)]
    rw [List.drop_of_length_le (by omega), runFrom] at hrun
    rw [hrun]
    refine ⟨t', as', nA, nE, ?_, hst, has⟩
    show some (D.tup [t'.enc, dl nA (((as'.map An.enc).drop 0).take k), dl nE (((r.evs.map Ev.enc).drop 0).take r.evs.length)]) = _
    rw [List.drop_zero, List.drop_zero, List.take_of_length_le (by simp; omega), List.take_of_length_le (by simp)]
end Go.AM.SZ
namespace Go.AM.SZ
open Go Go.AM
theorem texts_nn (n1 n2 : Bool) (l : List ByteArray) (hl : l.length ≤ 1048576) : F30.s FUEL (dl n1 (l.map dS)) (dl n2 (l.map dS)) = some (db true) := by
  unfold F30.s
  refine cf (by simp) ?_
  refine goS_rule (fun t : F30.S4 => ∃ k : Nat, t = ⟨dl n1 (l.map dS), dl n2 (l.map dS), (k : Int)⟩ ∧ k ≤ l.length) (fun t => l.length - t.i3.toNat) (fun o => o = some (db true)) ?_ _ _ ⟨0, rfl, by omega⟩ (by simp [FUEL]; omega)
  rintro _ rec ⟨k, rfl, hk⟩ hrec
  simp only [F30.st4]
  by_cases h1 : k < l.length
  · refine ct (by simp; omega) (ct (by simp; omega) (ct (by simp; omega) (cf (by simp) ?_)))
    have hadd : ad .i64 (k : Int) 1 = ((k + 1 : Nat) : Int) := by rw [ad64 (by omega) (by omega)]; rfl
    rw [hadd]
    exact hrec _ ⟨k + 1, rfl, by omega⟩ (by simp; omega)
  · exact cf (by simp; omega) rfl
theorem same_nnd {f g : Fl} (h : nnd g true = nnd f true) (hl : f.holds.length ≤ 1048576) : F29.s FUEL f.enc g.enc = some (db true) := by
  rw [nnd_eq h]
  generalize g.nn = b
  unfold F29.s
  refine ct (by show eqI f.id f.id = true; simp) (ct (by show eqS f.name f.name = true; simp) (ct (by show eqS f.data f.data = true; simp) ?_))
  have h3 : f.enc.at 3 = db f.sealed := rfl
  have h3' : (nnd f b).enc.at 3 = db f.sealed := rfl
  have h5 : f.enc.at 5 = dl f.nn (f.holds.map dS) := rfl
  have h5' : (nnd f b).enc.at 5 = dl b (f.holds.map dS) := rfl
  rw [h3, h3', h5, h5']
  refine bdS (x := db true) (by rw [show eqDepth = 15 + 1 from rfl, eqv_bool]; simp) (ct rfl (ct (by show eqI f.until_ f.until_ = true; simp) (bdS (texts_nn _ _ _ hl) rfl)))
theorem answers_ref {a a' : An} (h : SimA a a') (h1 : a.file.holds.length ≤ 1048576) (h2 : a.names.length ≤ 1048576) : F10.s FUEL a.enc a'.enc = some (db true) := by
  unfold F10.s
  have e3 : a.enc.at 3 = a.file.enc := rfl
  have e3' : a'.enc.at 3 = a'.file.enc := rfl
  have e4 : a.enc.at 4 = dl a.nn (a.names.map dS) := rfl
  have e4' : a'.enc.at 4 = dl a'.nn (a.names.map dS) := by rw [← h.names]; rfl
  rw [e3, e3', e4, e4']
  exact ct (by show eqI a.err a'.err = true; rw [h.err]; simp) (ct (by show eqI a.n a'.n = true; rw [h.n]; simp) (ct (by show eqS a.text a'.text = true; rw [h.text]; simp) (bdS (same_nnd h.file h1) (ct rfl (bdS (texts_nn _ _ _ h2) rfl)))))
theorem states_ref {s s' : St} (h : SimS s s') (hs : StOk s) : F11.s FUEL s.enc s'.enc = some (db true) := by
  have h12 := hs.len
  have hlen := h.files.len
  unfold F11.s
  have h0 : s.enc.at 0 = dl s.nn (s.files.map Fl.enc) := rfl
  have h0' : s'.enc.at 0 = dl s'.nn (s'.files.map Fl.enc) := rfl
  refine cf (by rw [h0, h0']; simp; omega) (cf (by show neI s.last s'.last = false; rw [h.last]; simp) (cf (by show neI s.floor s'.floor = false; rw [h.floor]; simp) ?_))
  refine goS_rule (fun t : F11.S4 => ∃ k : Nat, t = ⟨(k : Int), s.enc, s'.enc⟩ ∧ k ≤ s.files.length) (fun t => s.files.length - t.i1.toNat) (fun o => o = some (db true)) ?_ _ _ ⟨0, rfl, by omega⟩ (by simp [FUEL]; omega)
  rintro _ rec ⟨k, rfl, hk⟩ hrec
  simp only [F11.st4, h0, h0']
  by_cases h1 : k < s.files.length
  · have hadd : ad .i64 (k : Int) 1 = ((k + 1 : Nat) : Int) := by rw [ad64 (by omega) (by omega)]; rfl
    have h1' : k < s'.files.length := by omega
    have hf := (hs.files _ (List.getElem_mem h1)).hold
    have hg := h.files.get h1 h1'
    refine ct (by simp; omega) (ct (by simp; omega) (ct (by simp; omega) ?_))
    simp only [elems_slice, Int.toNat_natCast, ix_map h1, ix_map h1']
    refine bdS (same_nnd (by rw [hg]; rfl) (by omega)) (cf rfl ?_)
    rw [hadd]
    exact hrec _ ⟨k + 1, rfl, by omega⟩ (by simp; omega)
  · exact cf (by simp; omega) rfl
theorem events_ref (n1 n2 : Bool) (l : List Ev) (hl : l.length ≤ 1048576) (hs : ∀ e ∈ l, e.sum.length = 32) : F13.s FUEL (dl n1 (l.map Ev.enc)) (dl n2 (l.map Ev.enc)) = some (db true) := by
  unfold F13.s
  refine cf (by simp) ?_
  refine goS_rule (fun t : F13.S4 => ∃ k : Nat, t = ⟨dl n1 (l.map Ev.enc), dl n2 (l.map Ev.enc), (k : Int)⟩ ∧ k ≤ l.length) (fun t => l.length - t.i3.toNat) (fun o => o = some (db true)) ?_ _ _ ⟨0, rfl, by omega⟩ (by simp [FUEL]; omega)
  rintro _ rec ⟨k, rfl, hk⟩ hrec
  simp only [F13.st4]
  by_cases h1 : k < l.length
  · have hadd : ad .i64 (k : Int) 1 = ((k + 1 : Nat) : Int) := by rw [ad64 (by omega) (by omega)]; rfl
    have h32 := hs _ (List.getElem_mem h1)
    refine ct (by simp; omega) (ct (by simp; omega) (ct (by simp; omega) ?_))
    simp only [elems_slice, Int.toNat_natCast, ix_map h1]
    refine bdS (x := db false) (by rw [eqv_ev h32 h32, evEq_self]; rfl) (cf rfl ?_)
    rw [hadd]
    exact hrec _ ⟨k + 1, rfl, by omega⟩ (by simp; omega)
  · exact cf (by simp; omega) rfl
def anSmall (a : An) : Prop := a.file.holds.length ≤ 1048576 ∧ a.names.length ≤ 1048576
theorem do_small {s : St} {o : Mo} (hs : StOk s) : anSmall (doM shaL s o).an := by
  have h12 := hs.len
  have hz : ∀ e n t, anSmall ⟨e, n, t, zeroF, false, []⟩ := fun e n t => ⟨by simp [zeroF], by simp⟩
  unfold doM
  repeat' split
  all_goals first | exact hz _ _ _ | skip
  · unfold createM; repeat' split
    all_goals exact hz _ _ _
  · unfold tickM; split <;> exact hz _ _ _
  · unfold readM; repeat' split
    all_goals exact hz _ _ _
  · unfold statM
    split
    · exact hz _ _ _
    split
    · exact hz _ _ _
    rename_i f hf
    have := (hs.files f (List.mem_of_getElem? hf)).hold
    exact ⟨by show f.holds.length ≤ _; omega, by simp⟩
  · refine ⟨by simp [listM, zeroF], ?_⟩
    simp only [listM]
    rw [(sortN_perm _).length_eq, List.length_map]; omega
  · unfold changeM; repeat' split
    all_goals exact hz _ _ _
theorem run_small : ∀ {l : List Mo} {r : Run}, StOk r.st → (∀ o ∈ l, MoOk o) → (∀ a ∈ r.ans, anSmall a) → ∀ a ∈ (runFrom shaL l r).ans, anSmall a
  | [], _, _, _, h => h
  | o :: l, r, hs, hl, h => by
    rw [runFrom]
    refine run_small (do_ok hs (hl o (by simp))) (fun o' h' => hl o' (by simp [h'])) fun a ha => ?_
    rcases List.mem_append.1 ha with ha | ha
    · exact h a ha
    · simp only [List.mem_singleton] at ha
      subst ha
      exact do_small hs
theorem run_evs : ∀ {l : List Mo} {r : Run} (N : Nat), StOk r.st → (∀ o ∈ l, MoOk o) → (∀ e ∈ r.evs, e.sum.length = 32) → r.evs.length ≤ N → (∀ e ∈ (runFrom shaL l r).evs, e.sum.length = 32) ∧ (runFrom shaL l r).evs.length ≤ N + 12 * l.length
  | [], _, N, _, _, h, hN => ⟨h, by rw [runFrom]; simpa using hN⟩
  | o :: l, r, N, hs, hl, h, hN => by
    rw [runFrom]
    have hev := do_evs_len (sum := shaL) (o := o) hs
    have hes := do_events (sum := shaL) shaL_len hs (hl o (by simp))
    have := run_evs (l := l) (r := ⟨(doM shaL r.st o).st, true, r.ans ++ [(doM shaL r.st o).an], r.nnE || !(doM shaL r.st o).evs.isEmpty, r.evs ++ (doM shaL r.st o).evs⟩) (N + 12) (do_ok hs (hl o (by simp))) (fun o' h' => hl o' (by simp [h']))
      (fun e he => by rcases List.mem_append.1 he with he | he; exact h e he; exact (hes e he).2.2) (by simp; omega)
    exact ⟨this.1, by have := this.2; simp only [List.length_cons]; omega⟩
theorem runs_law (nn : Bool) (l : List Mo) (hs : ∀ o ∈ l, o.ok) : F3.s FUEL (dl nn (l.map Mo.enc)) = some (db true) := by
  unfold F3.s
  refine bdS works_M (cf rfl (bdS (few_specM nn l) ?_))
  cases hf : fewM l with
  | false => exact ct rfl rfl
  | true =>
    obtain ⟨hlen, hl⟩ := few_okM hf hs
    obtain ⟨t', as', nA, nE, hrf, hst, has⟩ := run_ref emptyS emptyS ⟨SimL.refl _, rfl, rfl⟩ nn l emptyS_ok hl (by omega)
    have hrun := run_spec emptyS nn l emptyS_ok hl (by omega)
    have hS : StOk (runM shaL emptyS l).st := runFrom_ok emptyS_ok hl
    have hsm : ∀ a ∈ (runM shaL emptyS l).ans, anSmall a := run_small (l := l) (r := run0 emptyS) emptyS_ok hl (by simp [run0])
    have hevs := run_evs (l := l) (r := run0 emptyS) 0 emptyS_ok hl (by simp [run0]) (by simp [run0])
    have hevs' : (∀ e ∈ (runM shaL emptyS l).evs, e.sum.length = 32) ∧ (runM shaL emptyS l).evs.length ≤ 0 + 12 * l.length := hevs
    have hrl : (runM shaL emptyS l).ans.length ≤ 1000000 := by
      have := runFrom_lens (sum := shaL) (l := l) (r := run0 emptyS)
      unfold runM; rw [this]; simp [run0]; omega
    generalize runM shaL emptyS l = R at hrf hst has hrun hS hsm hevs' hrl
    have hal := has.1
    refine cf rfl (bdS hrun (bdS hrf ?_))
    have e1 : R.enc.at 1 = dl R.nnA (R.ans.map An.enc) := rfl
    have e2 : R.enc.at 2 = dl R.nnE (R.evs.map Ev.enc) := rfl
    have e0 : R.enc.at 0 = R.st.enc := rfl
    rw [e0, e1, e2]
    refine cf (by simp; omega) ?_
    have hfuel : R.ans.length ≤ 1000000 → goS (F3.st12 FUEL) FUEL ⟨db true, dl R.nnA (R.ans.map An.enc), dl R.nnE (R.evs.map Ev.enc), dl nA (as'.map An.enc), dl nE (R.evs.map Ev.enc), 0, R.st.enc, t'.enc⟩ (fun x => match x with
        | .e0 d5 d6 d7 d8 d9 i10 d11 d12 r13 => (some (db false))
        | .e1 d5 d6 d7 d8 d9 i10 d11 d12 => (bdB d5 fun g14 => (cond g14 (bd (F12.s FUEL d11) fun r15 => (bd (F11.s FUEL r15 d12) fun r16 => (bdB r16 fun g17 => (cond g17 (bd (F13.s FUEL d7 d9) fun r18 => (some r18)) (some (db false)))))) (some (db false))))) = some (db true) := by
      intro hn
      refine goS_rule (fun t : F3.S12 => ∃ k : Nat, t = ⟨db true, dl R.nnA (R.ans.map An.enc), dl R.nnE (R.evs.map Ev.enc), dl nA (as'.map An.enc), dl nE (R.evs.map Ev.enc), (k : Int), R.st.enc, t'.enc⟩ ∧ k ≤ R.ans.length) (fun t => R.ans.length - t.i10.toNat) (fun o => o = some (db true)) ?_ _ _ ⟨0, rfl, by omega⟩ (by simp [FUEL]; omega)
      rintro _ rec ⟨k, rfl, hk⟩ hrec
      simp only [F3.st12]
      by_cases h1 : k < R.ans.length
      · have hadd : ad .i64 (k : Int) 1 = ((k + 1 : Nat) : Int) := by rw [ad64 (by omega) (by omega)]; rfl
        have h1' : k < as'.length := by omega
        have hsk := hsm _ (List.getElem_mem h1)
        refine ct (by simp; omega) (ct (by simp; omega) (ct (by simp; omega) ?_))
        simp only [elems_slice, Int.toNat_natCast, ix_map h1, ix_map h1']
        refine bdS (answers_ref (has.2 k h1 h1') hsk.1 hsk.2) (cf rfl ?_)
        rw [hadd]
        exact hrec _ ⟨k + 1, rfl, by omega⟩ (by simp; omega)
      · refine cf (by simp; omega) ?_
        have h12 : F12.s FUEL R.st.enc = some R.st.enc := rfl
        show (cond true (bd (F12.s FUEL R.st.enc) fun r15 => (bd (F11.s FUEL r15 t'.enc) fun r16 => (bdB r16 fun g17 => (cond g17 (bd (F13.s FUEL (dl R.nnE (R.evs.map Ev.enc)) (dl nE (R.evs.map Ev.enc))) fun r18 => (some r18)) (some (db false)))))) (some (db false))) = _
        refine ct rfl (bdS h12 (bdS (states_ref hst hS) ?_))
        show (cond true (bd (F13.s FUEL (dl R.nnE (R.evs.map Ev.enc)) (dl nE (R.evs.map Ev.enc))) fun r18 => (some r18)) (some (db false))) = _
        exact ct rfl (bdS (events_ref _ _ _ (by omega) hevs'.1) rfl)
    exact hfuel hrl
theorem pure3 : ∀ ds, D.hass ty ds [(.slice 52)] → D.wfs ds → F3.c.run ds = some (.bool true) := by
  intro ds h hw
  obtain ⟨d0, _, rfl, h0, h⟩ := hassC h
  obtain rfl := hass0 h
  simp only [D.wfs] at hw
  obtain ⟨nn, l, rfl, hl⟩ := mos_of h0 hw.1
  exact runs_law nn l hl
end Go.AM.SZ
