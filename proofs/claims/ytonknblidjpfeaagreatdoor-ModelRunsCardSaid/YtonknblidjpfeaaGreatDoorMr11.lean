/- Part 11 of the proof: the abstract machine, what the functions compute, and plain laws over that. -/
import Derived.Test.YtonknblidjpfeaaGreatDoorMr10
set_option linter.all false
set_option linter.unusedSimpArgs false
set_option linter.unusedVariables false
set_option linter.unusedSectionVars false
namespace Go.AM.SZ
open Go Go.AM
theorem sweep_spec (s : St) (o : Mo) (hs : StOk s) : F15.sweepS FUEL s.enc o.enc = some (sweepM s).enc := by
  have hl := hs.len
  have hdl : (dueL s.files s.floor).length ≤ 12 := by
    unfold dueL
    rw [List.length_map]
    exact Nat.le_trans (List.length_filter_le _ _) hl
  unfold F15.sweepS
  have h0 : s.enc.at 0 = dl s.nn (s.files.map Fl.enc) := rfl
  have hfl : (s.enc.at 2).i = s.floor := rfl
  rw [h0, hfl]
  refine bdS (due_spec s.nn s.files s.floor (by omega)) ?_
  refine loop70 (dueL s.files s.floor) (by omega) _ rfl (by simp) (by simp) rfl rfl rfl rfl rfl rfl _ _ ?_
  refine bdS (x := dl s.nn (s.files.map Fl.enc)) (clone_files s.nn _ (fun h => by rw [hs.nil h]; rfl) (by simp; omega)) ?_
  refine loop38 s.files s.floor (by omega) _ rfl (by simp) (by simp) rfl rfl rfl _ _ (fun i hi => ?_) (fun hn => ?_)
  · rw [List.findIdx?_eq_some_iff_getElem] at hi
    obtain ⟨hil, hdue, hfirst⟩ := hi
    refine cf (by show eqI (i : Int) (-1) = false; simp) ?_
    refine loop96 s.files s.floor (by omega) _ i hil rfl (by simp) rfl ?_ rfl rfl (fun j hj hji => by simpa using hfirst j hji) hdue _ _ (fun L hL hT => ?_)
    · show ad .i64 (i : Int) 1 = _
      rw [ad64 (by omega) (by omega)]; rfl
    have hkl : (keptL s.floor s.files).length ≤ s.files.length := List.length_filter_le _ _
    unfold x112_5e0
    dsimp only
    simp only [elems_slice, nn_slice, Int.toNat_natCast, List.length_map]
    refine ct (by simp [hL, hkl]) (ct (by simp [ap, rp, hL]; omega) ?_)
    simp only [Nat.zero_add, Nat.add_zero, Nat.sub_zero, List.drop_zero]
    have e1 : ∀ (Y Z : List D), List.take (keptL s.floor s.files).length (ap (ap (List.take (keptL s.floor s.files).length L) Y) Z) = (keptL s.floor s.files).map Fl.enc := by
      intro Y Z
      rw [← hT]
      simp only [ap, List.append_assoc]
      rw [List.take_append_of_le_length (by simp; omega), List.take_take, Nat.min_self]
    have e2 : List.take (dueL s.files s.floor).length (((dueL s.files s.floor).map delEv).map Ev.enc) = ((dueL s.files s.floor).map delEv).map Ev.enc := List.take_of_length_le (by simp)
    rw [e1, e2]
    rfl
  · rw [List.findIdx?_eq_none_iff] at hn
    have hids : dueL s.files s.floor = [] := by
      unfold dueL
      rw [List.map_eq_nil_iff, List.filter_eq_nil_iff]
      intro f hf
      have := hn f hf
      simpa [dueB] using this
    have hkept : (s.files.filter fun f => !decide (mayN f s.floor = 0)) = s.files := by
      rw [List.filter_eq_self]
      intro f hf
      have := hn f hf
      simpa [dueB] using this
    unfold x45_2e1
    dsimp only
    simp only [elems_slice, nn_slice, List.length_map, List.drop_zero]
    have e1 : List.take s.files.length (s.files.map Fl.enc) = s.files.map Fl.enc := List.take_of_length_le (by simp)
    have e2 : List.take (dueL s.files s.floor).length (((dueL s.files s.floor).map delEv).map Ev.enc) = ((dueL s.files s.floor).map delEv).map Ev.enc := List.take_of_length_le (by simp)
    rw [e1, e2]
    unfold sweepM Res.enc
    rw [hkept]
    rfl
end Go.AM.SZ
namespace Go.AM.SZ
open Go Go.AM
theorem cmp_spec (a b : ByteArray) (ha : a.size ≤ 1048576) (hb : b.size ≤ 1048576) : ∃ n : Int, F116.s FUEL a b = some (di n) ∧ (n < 0 ↔ lessB a b = true) := by
  unfold F116.s
  rw [less_spec a b ha hb, bd_some]
  cases h : lessB a b with
  | true => exact ⟨-1, ct rfl rfl, by simp⟩
  | false =>
    rw [show ∀ x y : Option D, cond (db false).b x y = y from fun _ _ => rfl, less_spec b a hb ha, bd_some]
    cases lessB b a with
    | true => exact ⟨1, ct rfl rfl, by simp⟩
    | false => exact ⟨0, cf rfl rfl, by simp⟩
theorem loop73 (nn : Bool) (fs : List Fl) (hl : fs.length ≤ 1048576) (s0 : F15.S67_3) (h186 : s0.n186 = 0) (h187 : s0.n187 = 0) (h188 : s0.d188 = dl nn (fs.map Fl.enc)) (h189 : s0.i189 = (fs.length : Int)) (h190 : s0.i190 = 0) (h225 : s0.b225 = false) (h226 : s0.l226 = [])
    (K : F15.X67_3 → Option D) (R : Option D) (hK : K (x67_3e0 { s0 with n187 := fs.length, i190 := (fs.length : Int), b225 := !fs.isEmpty, l226 := (fs.map (·.name)).map dS }) = R) : goS (F15.st67_3 FUEL) FUEL s0 K = R := by
  refine goS_rule (fun t : F15.S67_3 => ∃ k : Nat, t = { s0 with n187 := k, i190 := (k : Int), b225 := !(fs.take k).isEmpty, l226 := ((fs.take k).map (·.name)).map dS } ∧ k ≤ fs.length) (fun t => fs.length - t.i190.toNat) (fun o => o = R) ?_ _ _ ⟨0, ?_, by omega⟩ (by rw [h190]; simp [FUEL]; omega)
  · rintro _ rec ⟨k, rfl, hk⟩ hrec
    simp only [F15.st67_3, h186, h188, h189]
    by_cases h1 : k < fs.length
    · have hadd : ad .i64 (k : Int) 1 = ((k + 1 : Nat) : Int) := by rw [ad64 (by omega) (by omega)]; rfl
      have htk : fs.take (k + 1) = fs.take k ++ [fs[k]] := by rw [List.take_succ_eq_append_getElem h1]
      refine ct (by simp; omega) (ct (by simp; omega) (ct (by simp; omega) ?_))
      rw [hadd]
      refine hrec _ ⟨k + 1, ?_, by omega⟩ ?_
      rotate_left
      · simp; omega
      rw [F15.S67_3.mk.injEq]
      simp only [h186, h188, h189, true_and, and_true]
      refine ⟨?_, ?_⟩
      · rw [htk]; cases fs.take k <;> rfl
      · rw [htk]
        simp only [List.map_append, List.map_cons, List.map_nil, ap, List.drop_zero, elems_slice, Int.toNat_natCast]
        rw [List.take_of_length_le (by simp; omega), ix_map h1]
        rfl
    · have hkk : k = fs.length := by omega
      refine cf (by simp; omega) ?_
      subst hkk
      rw [List.take_length]
      unfold x67_3e0 at hK
      simp only [h186, h188, h189] at hK ⊢
      exact hK
  · cases s0
    simp only at h187 h190 h225 h226
    subst h187 h190 h225 h226
    simp
theorem rise_mid {A B : List ByteArray} {x : ByteArray} (h : riseB (A ++ B)) (hB : ∀ b ∈ B, lessB x b = true) (hA : ∀ a ∈ A, lessB a x = true) : riseB (A ++ x :: B) := by
  unfold riseB at h ⊢
  rw [List.pairwise_append] at h ⊢
  refine ⟨h.1, List.pairwise_cons.2 ⟨hB, h.2.1⟩, fun a ha b hb => ?_⟩
  rcases List.mem_cons.1 hb with rfl | hb
  · exact hA a ha
  · exact h.2.2 a ha b hb
theorem loop113_4 (A B rest : List ByteArray) (x : ByteArray) (n : Nat) (hn : n = (A ++ x :: B ++ rest).length) (hn12 : n ≤ 1048576) (hsz : ∀ y ∈ A ++ x :: B ++ rest, y.size ≤ 1048576) (hrise : riseB (A ++ B)) (hxB : ∀ b ∈ B, lessB x b = true) (hxA : x ∉ A)
    (s0 : F15.S150_4) (h310 : s0.n310 = 0) (h311 : s0.n311 = n) (h312 : s0.i312 = 0) (h315 : s0.i315 = (A.length : Int)) (h351 : s0.l351 = (A ++ x :: B ++ rest).map dS)
    (K : F15.X150_4 → Option D) (R : Option D) (hK : ∀ A' B' : List ByteArray, riseB (A' ++ x :: B') → A' ++ B' = A ++ B → (∀ r, K (x150_4e0 { s0 with i315 := (A'.length : Int), l351 := (A' ++ x :: B' ++ rest).map dS } r) = R) ∧ K (x150_4e1 { s0 with i315 := (A'.length : Int), l351 := (A' ++ x :: B' ++ rest).map dS }) = R) :
    goS (F15.st150_4 FUEL) FUEL s0 K = R := by
  refine goS_rule (fun t : F15.S150_4 => ∃ A' B' : List ByteArray, t = { s0 with i315 := (A'.length : Int), l351 := (A' ++ x :: B' ++ rest).map dS } ∧ A' ++ B' = A ++ B ∧ (∀ b ∈ B', lessB x b = true) ∧ x ∉ A') (fun t => t.i315.toNat) (fun o => o = R) ?_ _ _ ⟨A, B, ?_, rfl, hxB, hxA⟩ (by rw [h315]; simp only [List.length_append, List.length_cons] at hn; simp [FUEL]; omega)
  · rintro _ rec ⟨A', B', rfl, hAB, hB', hA'⟩ hrec
    have hrise' : riseB (A' ++ B') := by rw [hAB]; exact hrise
    have hlen : A'.length + B'.length = A.length + B.length := by have := congrArg List.length hAB; simpa using this
    have hmem : ∀ y, y ∈ A' ++ B' ↔ y ∈ A ++ B := fun y => by rw [hAB]
    simp only [F15.st150_4, h310, h311, h312]
    simp only [List.length_append, List.length_cons] at hn
    rcases List.eq_nil_or_concat A' with rfl | ⟨A0, y, rfl⟩
    · refine cf (by simp) ?_
      have := (hK [] B' (rise_mid (A := []) hrise' hB' (by simp)) hAB).2
      unfold x150_4e1 at this
      simp only [h310, h311, h312] at this ⊢
      exact this
    · simp only [List.concat_eq_append] at *
      have hxs : x.size ≤ 1048576 := hsz x (by simp)
      have hys : y.size ≤ 1048576 := by
        have := (hmem y).1 (by simp)
        exact hsz y (by simp at this ⊢; rcases this with h | h <;> simp [h])
      have hlA : ((A0 ++ [y]).length : Int) = ((A0.length + 1 : Nat) : Int) := by simp
      rw [hlA]
      have hsub : sb .i64 ((A0.length + 1 : Nat) : Int) 1 = (A0.length : Int) := by
        simp only [List.length_append, List.length_cons, List.length_nil] at hlen
        rw [sb64 (by omega) (by omega)]; omega
      have hL : ((A0 ++ [y]) ++ x :: B' ++ rest).map dS = A0.map dS ++ dS y :: dS x :: (B' ++ rest).map dS := by simp
      have e1 : ix (A0.map dS ++ dS y :: dS x :: (B' ++ rest).map dS) (0 + (Int.toNat ((A0.length + 1 : Nat) : Int))) = dS x := by
        rw [ix_eq (by simp)]
        simp [List.getElem_append]
      have e2 : ix (A0.map dS ++ dS y :: dS x :: (B' ++ rest).map dS) (0 + (Int.toNat (A0.length : Int))) = dS y := by
        rw [ix_eq (by simp)]
        simp [List.getElem_append]
      simp only [List.length_append, List.length_cons, List.length_nil] at hlen
      rw [hL, hsub, e1, e2]
      refine ct (by simp only [gtI_t]; omega) (ct (by simp only [inb_t]; omega) (ct (by simp only [inb_t]; omega) ?_))
      obtain ⟨c, hc1, hc2⟩ := cmp_spec x y hxs hys
      refine bdS hc1 ?_
      by_cases hlt : lessB x y = true
      · refine ct (by have := hc2.2 hlt; simpa using this) (ct (by simp only [inb_t]; omega) (ct (by simp only [inb_t]; omega) (ct (by simp only [inb_t]; omega) (ct (by simp only [inb_t]; omega) ?_))))
        have e3 : ((A0.map dS ++ dS y :: dS x :: (B' ++ rest).map dS).set (0 + (Int.toNat ((A0.length + 1 : Nat) : Int))) (dS y)).set (0 + (Int.toNat (A0.length : Int))) (dS x) = (A0 ++ x :: (y :: B') ++ rest).map dS := by
          simp [List.set_append]
        rw [e3]
        refine hrec _ ⟨A0, y :: B', ?_, by rw [← hAB]; simp, ?_, fun h => hA' (by simp [h])⟩ ?_
        · simp only [h310, h311, h312]
        · intro b hb
          rcases List.mem_cons.1 hb with rfl | hb
          · exact hlt
          · exact hB' b hb
        · simp
      · refine cf (by have : ¬ c < 0 := fun h => hlt (hc2.1 h); simp; omega) ?_
        have hyx : lessB y x = true := less_of_not (by simpa using hlt) (fun e => hA' (by simp [e]))
        have hall : ∀ a ∈ A0 ++ [y], lessB a x = true := by
          intro a ha
          rcases List.mem_append.1 ha with ha | ha
          · have hp := (List.pairwise_append.1 hrise').1
            exact less_trans ((List.pairwise_append.1 hp).2.2 a ha y (by simp)) hyx
          · simp only [List.mem_singleton] at ha; subst ha; exact hyx
        have := (hK (A0 ++ [y]) B' (rise_mid hrise' hB' hall) hAB).1 (di c)
        unfold x150_4e0 at this
        simp only [h310, h311, h312] at this ⊢
        rw [hL, hlA] at this
        exact this
  · cases s0
    simp only at h315 h351
    subst h315 h351
    rfl
theorem loop113_1 (names : List ByteArray) (n : Nat) (hn : n = names.length) (hn12 : n ≤ 1000000) (hsz : ∀ y ∈ names, y.size ≤ 1048576) (hnd : names.Nodup)
    (s0 : F15.S150_1) (h269 : s0.n269 = 0) (h270 : s0.n270 = n) (h271 : s0.i271 = 0) (h272 : s0.i272 = (n : Int)) (h273 : s0.i273 = 1) (h309 : s0.l309 = names.map dS)
    (K : F15.X150_1 → Option D) (R : Option D) (hK : ∀ i : Int, K (x150_1e0 { s0 with i273 := i, l309 := (sortN names).map dS }) = R) : goS (F15.st150_1 FUEL) FUEL s0 K = R := by
  refine goS_rule (fun t : F15.S150_1 => ∃ (k : Nat) (l : List ByteArray), t = { s0 with i273 := (k : Int), l309 := l.map dS } ∧ 1 ≤ k ∧ (k ≤ n ∨ k = 1) ∧ l.Perm names ∧ riseB (l.take k)) (fun t => n - t.i273.toNat) (fun o => o = R) ?_ _ _ ⟨1, names, ?_, by omega, .inr rfl, List.Perm.refl _, ?_⟩ (by rw [h273]; simp [FUEL]; omega)
  · rintro _ rec ⟨k, l, rfl, hk1, hk2, hp, hr⟩ hrec
    have hll : l.length = n := by rw [hn]; exact hp.length_eq
    have hlnd : l.Nodup := hp.nodup_iff.2 hnd
    simp only [F15.st150_1, h269, h270, h271, h272]
    by_cases h1 : k < n
    · have hadd : ad .i64 (k : Int) 1 = ((k + 1 : Nat) : Int) := by rw [ad64 (by omega) (by omega)]; rfl
      have hsplit : l = l.take k ++ l[k] :: [] ++ l.drop (k + 1) := by simp
      refine ct (by simp; omega) ?_
      have hxA : l[k] ∉ l.take k := by
        intro h
        obtain ⟨j, hj, he⟩ := List.getElem_of_mem h
        simp only [List.length_take] at hj
        rw [List.getElem_take] at he
        exact (List.pairwise_iff_getElem.1 hlnd) j k (by omega) (by omega) (by omega) he
      refine loop113_4 (l.take k) [] (l.drop (k + 1)) l[k] n (by rw [← hsplit]; exact hll.symm) (by omega) (fun y hy => hsz y (hp.mem_iff.1 (by rw [← hsplit] at hy; exact hy))) (by simpa using hr) (by simp) hxA _ rfl rfl rfl (by show (k : Int) = _; simp; omega) (by show l.map dS = _; rw [← hsplit]) _ _ (fun A' B' hr' hab => ?_)
      · have hlen : A'.length + B'.length = k := by have := congrArg List.length hab; simp at this; omega
        have hperm : (A' ++ l[k] :: B' ++ l.drop (k + 1)).Perm l := by
          have h2 : (A' ++ l[k] :: B').Perm (l.take k ++ [l[k]]) := by
            refine List.perm_middle.trans (((List.Perm.of_eq hab).cons _).trans ?_)
            rw [List.append_nil]
            exact (List.perm_append_singleton _ _).symm
          have h3 := h2.append_right (l.drop (k + 1))
          have h4 : l.take k ++ [l[k]] ++ l.drop (k + 1) = l := by simp
          rw [h4] at h3
          exact h3
        have hfin : rec { s0 with i273 := ad .i64 (k : Int) 1, l309 := (A' ++ l[k] :: B' ++ l.drop (k + 1)).map dS } = R := by
          rw [hadd]
          refine hrec _ ⟨k + 1, A' ++ l[k] :: B' ++ l.drop (k + 1), rfl, by omega, by omega, hperm.trans hp, ?_⟩ ?_
          · rw [List.take_append_of_le_length (by simp; omega), List.take_of_length_le (by simp; omega)]
            exact hr'
          · simp; omega
        rw [h269, h270, h271, h272] at hfin
        exact ⟨fun r => hfin, hfin⟩
    · refine cf (by simp; omega) ?_
      have hfull : l.take k = l := List.take_of_length_le (by omega)
      rw [hfull] at hr
      have hl : l = sortN names := rise_eq hr (sortN_rise hnd) (hp.trans (sortN_perm names).symm)
      subst hl
      have := hK (k : Int)
      unfold x150_1e0 at this
      simp only [h269, h270, h271, h272] at this ⊢
      exact this
  · cases s0
    simp only at h273 h309
    subst h273 h309
    rfl
  · unfold riseB
    cases names with
    | nil => simp
    | cons a l => simp
end Go.AM.SZ
namespace Go.AM.SZ
open Go Go.AM
theorem loop108_2 (s0 : F15.S141_2) (h : s0.i229 < s0.i232) (K : F15.X141_2 → Option D) (R : Option D) (hK : K (x141_2e0 s0) = R) : goS (F15.st141_2 FUEL) FUEL s0 K = R := by
  refine goS_rule (fun t : F15.S141_2 => t = s0) (fun _ => 0) (fun o => o = R) ?_ _ _ rfl (by simp)
  rintro s1 rec rfl hrec
  cases s1
  simp only [F15.st141_2]
  exact cf (by simpa using h) hK
theorem loop108_7 (s0 : F15.S141_7) (h : s0.i355 ≤ s0.i356) (K : F15.X141_7 → Option D) (R : Option D) (hK : K (x141_7e0 s0) = R) : goS (F15.st141_7 FUEL) FUEL s0 K = R := by
  refine goS_rule (fun t : F15.S141_7 => t = s0) (fun _ => 0) (fun o => o = R) ?_ _ _ rfl (by simp)
  rintro s1 rec rfl hrec
  cases s1
  simp only [F15.st141_7]
  exact cf (by simpa using h) hK
theorem names_nodup {s : St} (hs : StOk s) : (s.files.map (·.name)).Nodup := by
  unfold List.Nodup
  rw [List.pairwise_map]
  exact hs.names
theorem list_spec (s : St) (o : Mo) (hs : StOk s) : F15.listS FUEL s.enc o.enc = some (listM s).enc := by
  have hl := hs.len
  unfold F15.listS
  have h0 : s.enc.at 0 = dl s.nn (s.files.map Fl.enc) := rfl
  rw [h0]
  refine loop73 s.nn s.files (by omega) _ rfl rfl rfl (by simp) rfl rfl rfl _ _ ?_
  unfold x67_3e0
  dsimp only
  refine loop108_2 _ (by simp; omega) _ _ ?_
  unfold x141_2e0
  dsimp only
  refine loop113_1 (s.files.map (·.name)) s.files.length (by simp) (by omega) (fun y hy => ?_) (names_nodup hs) _ rfl rfl rfl (by simp) ?_ rfl _ _ (fun i => ?_)
  · obtain ⟨f, hf, rfl⟩ := List.mem_map.1 hy
    have := (hs.files f hf).nsz; omega
  · show ad .i64 0 1 = 1
    rw [ad64 (by omega) (by omega)]; rfl
  unfold x150_1e0
  dsimp only
  refine loop108_7 _ (by simp; omega) _ _ ?_
  unfold x141_7e0
  dsimp only
  have e : List.take s.files.length (List.drop 0 ((sortN (s.files.map (·.name))).map dS)) = (sortN (s.files.map (·.name))).map dS := by
    rw [List.drop_zero, List.take_of_length_le]
    have := (sortN_perm (s.files.map (·.name))).length_eq
    simp at this ⊢; omega
  rw [e]
  rfl
theorem create_spec (s : St) (o : Mo) (hs : StOk s) (ho : MoOk o) : F15.createS FUEL s.enc o.enc = some (createM s o).enc := by
  have hl := hs.len
  have l0 := hs.last0
  have l1 := hs.last1
  unfold F15.createS createM
  have hn : (o.enc.at 1).s = o.name := rfl
  have h0 : s.enc.at 0 = dl s.nn (s.files.map Fl.enc) := rfl
  have hla : (s.enc.at 1).i = s.last := rfl
  have hon := ho.name
  rw [hn, h0, hla]
  refine bdS (name_spec o.name (by omega)) ?_
  cases hv : nameB o.name with
  | false => rw [if_pos rfl]; exact ct rfl (stay_enc s 2)
  | true =>
    rw [if_neg (by simp)]
    refine cf rfl (bdS (find_specM s o.name (by omega)) ?_)
    by_cases h1 : 0 ≤ findI (fun f : Fl => decide (f.name = o.name)) s.files
    · rw [if_pos h1]; exact ct (by simpa using h1) (stay_enc s 4)
    rw [if_neg h1]
    refine cf (by simp only [geI_f, i_int]; omega) ?_
    by_cases h2 : 12 ≤ s.files.length
    · rw [if_pos h2]; exact ct (by simp; omega) (stay_enc s 10)
    rw [if_neg h2]
    refine cf (by simp; omega) ?_
    by_cases h3 : 1099511627776 ≤ s.last
    · rw [if_pos h3]; exact ct (by simpa using h3) (stay_enc s 10)
    rw [if_neg h3]
    refine cf (by simp; omega) ?_
    have hadd : ad .i64 s.last 1 = s.last + 1 := by rw [ad64 (by omega) (by omega)]
    have hnew : newF (s.last + 1) o.name = (⟨s.last + 1, o.name, bs [], false, 0, false, []⟩, 0) := by
      unfold newF
      rw [if_neg (by simp [hv]), if_pos (by omega)]
    refine bdS (by rw [hadd]; exact new_spec (s.last + 1) o.name (by omega)) ?_
    rw [hnew]
    refine cf rfl (bdS (clone_files s.nn _ (fun h => by rw [hs.nil h]; rfl) (by simp; omega)) (ct (by simp; omega) ?_))
    have e : ((ap (((s.files.map Fl.enc).drop 0).take (s.files.map Fl.enc).length) [Fl.enc ⟨s.last + 1, o.name, bs [], false, 0, false, []⟩]).drop 0).take ((s.files.map Fl.enc).length + 1) = (s.files ++ [(⟨s.last + 1, o.name, bs [], false, 0, false, []⟩ : Fl)]).map Fl.enc := by
      rw [List.drop_zero, List.drop_zero, ap, List.take_of_length_le (l := s.files.map Fl.enc) (Nat.le_refl _), List.take_of_length_le (by simp)]
      simp
    have e2 : (s.nn || true) = true := by simp
    refine Eq.trans ?_ (congrArg (fun l => some (D.tup [da [dl true l, di (s.last + 1), di s.floor], (An.enc ⟨0, s.last + 1, bs [], zeroF, false, []⟩), dl true [Ev.enc ⟨0, s.last + 1, o.name, 0, 0, zeros⟩]])) e)
    show some (D.tup [da [dl (s.nn || true) _, _, _], _, _]) = _
    rw [e2]
    rfl
theorem do_specM (s : St) (o : Mo) (hs : StOk s) (ho : MoOk o) : F15.s FUEL s.enc o.enc = some (doM shaL s o).enc := by
  have hl := hs.len
  unfold F15.s
  by_cases hneg : o.kind < 0
  · have hR : doM shaL s o = stay s 1 := by unfold doM; rw [if_pos hneg]
    rw [hR]
    exact ct (by show ltI o.kind 0 = true; simpa using hneg) (stay_enc s 1)
  refine cf (by show ltI o.kind 0 = false; simp; omega) ?_
  by_cases hbig : 12 ≤ o.kind
  · have hR : doM shaL s o = stay s 1 := by unfold doM; rw [if_neg hneg, if_pos hbig]
    rw [hR]
    exact ct (by show geI o.kind 12 = true; simpa using hbig) (stay_enc s 1)
  refine cf (by show geI o.kind 12 = false; simp; omega) (ct (by show inb o.kind 12 = true; simp; omega) ?_)
  by_cases h0 : o.kind = 0
  · have hR : doM shaL s o = createM s o := by
      unfold doM
      repeat (first | rw [if_neg (by omega)] | rw [if_pos (by omega)])
    rw [hR]
    refine ct (by show (o.kind.toNat == 0) = true; rw [h0]; rfl) ?_
    exact create_spec s o hs ho
  refine cf (by show (o.kind.toNat == 0) = false; simp; omega) ?_
  by_cases h1 : o.kind = 1
  · have hR : doM shaL s o = changeM shaL s o := by
      unfold doM
      repeat (first | rw [if_neg (by omega)] | rw [if_pos (by omega)])
    rw [hR]
    refine ct (by show ((o.kind.toNat - 1) == 0) = true; rw [h1]; rfl) ?_
    exact change_spec s o hs ho
  refine cf (by show ((o.kind.toNat - 1) == 0) = false; simp; omega) ?_
  by_cases h2 : o.kind = 2
  · have hR : doM shaL s o = changeM shaL s o := by
      unfold doM
      repeat (first | rw [if_neg (by omega)] | rw [if_pos (by omega)])
    rw [hR]
    refine ct (by show (((o.kind.toNat - 1) - 1) == 0) = true; rw [h2]; rfl) ?_
    exact change_spec s o hs ho
  refine cf (by show (((o.kind.toNat - 1) - 1) == 0) = false; simp; omega) ?_
  by_cases h3 : o.kind = 3
  · have hR : doM shaL s o = changeM shaL s o := by
      unfold doM
      repeat (first | rw [if_neg (by omega)] | rw [if_pos (by omega)])
    rw [hR]
    refine ct (by show ((((o.kind.toNat - 1) - 1) - 1) == 0) = true; rw [h3]; rfl) ?_
    exact change_spec s o hs ho
  refine cf (by show ((((o.kind.toNat - 1) - 1) - 1) == 0) = false; simp; omega) ?_
  by_cases h4 : o.kind = 4
  · have hR : doM shaL s o = changeM shaL s o := by
      unfold doM
      repeat (first | rw [if_neg (by omega)] | rw [if_pos (by omega)])
    rw [hR]
    refine ct (by show (((((o.kind.toNat - 1) - 1) - 1) - 1) == 0) = true; rw [h4]; rfl) ?_
    exact change_spec s o hs ho
  refine cf (by show (((((o.kind.toNat - 1) - 1) - 1) - 1) == 0) = false; simp; omega) ?_
  by_cases h5 : o.kind = 5
  · have hR : doM shaL s o = changeM shaL s o := by
      unfold doM
      repeat (first | rw [if_neg (by omega)] | rw [if_pos (by omega)])
    rw [hR]
    refine ct (by show ((((((o.kind.toNat - 1) - 1) - 1) - 1) - 1) == 0) = true; rw [h5]; rfl) ?_
    exact change_spec s o hs ho
  refine cf (by show ((((((o.kind.toNat - 1) - 1) - 1) - 1) - 1) == 0) = false; simp; omega) ?_
  by_cases h6 : o.kind = 6
  · have hR : doM shaL s o = changeM shaL s o := by
      unfold doM
      repeat (first | rw [if_neg (by omega)] | rw [if_pos (by omega)])
    rw [hR]
    refine ct (by show (((((((o.kind.toNat - 1) - 1) - 1) - 1) - 1) - 1) == 0) = true; rw [h6]; rfl) ?_
    exact change_spec s o hs ho
  refine cf (by show (((((((o.kind.toNat - 1) - 1) - 1) - 1) - 1) - 1) == 0) = false; simp; omega) ?_
  by_cases h7 : o.kind = 7
  · have hR : doM shaL s o = tickM s o := by
      unfold doM
      repeat (first | rw [if_neg (by omega)] | rw [if_pos (by omega)])
    rw [hR]
    refine ct (by show ((((((((o.kind.toNat - 1) - 1) - 1) - 1) - 1) - 1) - 1) == 0) = true; rw [h7]; rfl) ?_
    refine bdS (floor_spec s.floor o.time) ?_
    unfold tickM
    by_cases hf : floorN s.floor o.time = s.floor
    · rw [if_pos hf]
      exact cf (by show neI (floorN s.floor o.time) s.floor = false; simpa using hf) rfl
    · rw [if_neg hf]
      exact ct (by show neI (floorN s.floor o.time) s.floor = true; simpa using hf) rfl
  refine cf (by show ((((((((o.kind.toNat - 1) - 1) - 1) - 1) - 1) - 1) - 1) == 0) = false; simp; omega) ?_
  by_cases h8 : o.kind = 8
  · have hR : doM shaL s o = sweepM s := by
      unfold doM
      repeat (first | rw [if_neg (by omega)] | rw [if_pos (by omega)])
    rw [hR]
    refine ct (by show (((((((((o.kind.toNat - 1) - 1) - 1) - 1) - 1) - 1) - 1) - 1) == 0) = true; rw [h8]; rfl) ?_
    exact sweep_spec s o hs
  refine cf (by show (((((((((o.kind.toNat - 1) - 1) - 1) - 1) - 1) - 1) - 1) - 1) == 0) = false; simp; omega) ?_
  by_cases h9 : o.kind = 9
  · have hR : doM shaL s o = readM s o := by
      unfold doM
      repeat (first | rw [if_neg (by omega)] | rw [if_pos (by omega)])
    rw [hR]
    refine ct (by show ((((((((((o.kind.toNat - 1) - 1) - 1) - 1) - 1) - 1) - 1) - 1) - 1) == 0) = true; rw [h9]; rfl) ?_
    unfold readM
    refine bdS (find_specM s o.name (by omega)) ?_
    cases hx : findM s o.name with
    | none =>
      dsimp only
      rw [findI_none hx]
      exact ct (by simp) (stay_enc s 3)
    | some i =>
      obtain ⟨hi, hnm⟩ := findM_is hx
      dsimp only
      rw [List.getElem?_eq_getElem hi, findI_some hx]
      dsimp only
      have hie : ix (s.enc.at 0).elems ((di (i : Int)).i).toNat = s.files[i].enc := by
        show ix (s.files.map Fl.enc) (i : Int).toNat = _
        rw [Int.toNat_natCast, ix_map hi]
      refine cf (by simp) (ct (by show inb (i : Int) (s.files.map Fl.enc).length = true; simp; omega) ?_)
      rw [hie]
      exact bdS (read_spec s.files[i] o.a o.b) rfl
  refine cf (by show ((((((((((o.kind.toNat - 1) - 1) - 1) - 1) - 1) - 1) - 1) - 1) - 1) == 0) = false; simp; omega) ?_
  by_cases h10 : o.kind = 10
  · have hR : doM shaL s o = statM s o := by
      unfold doM
      repeat (first | rw [if_neg (by omega)] | rw [if_pos (by omega)])
    rw [hR]
    refine ct (by show (((((((((((o.kind.toNat - 1) - 1) - 1) - 1) - 1) - 1) - 1) - 1) - 1) - 1) == 0) = true; rw [h10]; rfl) ?_
    unfold statM
    refine bdS (find_specM s o.name (by omega)) ?_
    cases hx : findM s o.name with
    | none =>
      dsimp only
      rw [findI_none hx]
      exact ct (by simp) (stay_enc s 3)
    | some i =>
      obtain ⟨hi, hnm⟩ := findM_is hx
      dsimp only
      rw [List.getElem?_eq_getElem hi, findI_some hx]
      dsimp only
      have hie : ix (s.enc.at 0).elems ((di (i : Int)).i).toNat = s.files[i].enc := by
        show ix (s.files.map Fl.enc) (i : Int).toNat = _
        rw [Int.toNat_natCast, ix_map hi]
      refine cf (by simp) (ct (by show inb (i : Int) (s.files.map Fl.enc).length = true; simp; omega) ?_)
      rw [hie]
      exact bdS (meta_spec s.files[i]) rfl
  refine cf (by show (((((((((((o.kind.toNat - 1) - 1) - 1) - 1) - 1) - 1) - 1) - 1) - 1) - 1) == 0) = false; simp; omega) ?_
  by_cases h11 : o.kind = 11
  · have hR : doM shaL s o = listM s := by
      unfold doM
      repeat (first | rw [if_neg (by omega)] | rw [if_pos (by omega)])
    rw [hR]
    refine ct (by show ((((((((((((o.kind.toNat - 1) - 1) - 1) - 1) - 1) - 1) - 1) - 1) - 1) - 1) - 1) == 0) = true; rw [h11]; rfl) ?_
    exact list_spec s o hs
  refine cf (by show ((((((((((((o.kind.toNat - 1) - 1) - 1) - 1) - 1) - 1) - 1) - 1) - 1) - 1) - 1) == 0) = false; simp; omega) ?_
  omega
end Go.AM.SZ
namespace Go.AM.SZ
open Go Go.AM
def Run.enc (r : Run) : D := .tup [r.st.enc, dl r.nnA (r.ans.map An.enc), dl r.nnE (r.evs.map Ev.enc)]
theorem do_evs_len {sum : ByteArray → List Int} {s : St} {o : Mo} (hs : StOk s) : (doM sum s o).evs.length ≤ 12 := by
  unfold doM
  repeat' split
  · simp [stay]
  · simp [stay]
  · unfold createM; repeat' split
    all_goals simp [stay]
  · unfold tickM; split <;> simp
  · have := hs.len
    simp only [sweepM, dueL, List.length_map]
    exact Nat.le_trans (List.length_filter_le _ _) this
  · unfold readM; repeat' split
    all_goals simp [stay]
  · unfold statM; repeat' split
    all_goals simp [stay]
  · simp [listM]
  · unfold changeM; repeat' split
    all_goals simp [stay]
def oneM (o : Mo) : Bool := decide (o.text.size ≤ 700) && decide (o.name.size ≤ 200)
def fewM (l : List Mo) : Bool := decide (l.length ≤ 30) && (l.take 31).all oneM
theorem few_specM (nn : Bool) (l : List Mo) : F7.s FUEL (dl nn (l.map Mo.enc)) = some (db (fewM l)) := by
  unfold F7.s
  refine goS_rule (fun t : F7.S2 => ∃ k : Nat, t = ⟨dl nn (l.map Mo.enc), (k : Int)⟩ ∧ k ≤ 31 ∧ ∀ i (h : i < l.length), i < k → oneM l[i] = true) (fun t => 31 - t.i2.toNat) (fun o => o = some (db (fewM l))) ?_ _ _ ⟨0, rfl, by omega, by omega⟩ (by simp [FUEL])
  rintro _ rec ⟨k, rfl, hk, hs⟩ hrec
  have hall : (∀ i (h : i < l.length), i ≤ 30 → oneM l[i] = true) → (l.take 31).all oneM = true := by
    intro h
    simp only [List.all_eq_true]
    intro e he
    obtain ⟨i, hi, rfl⟩ := List.getElem_of_mem he
    simp at hi ⊢
    exact h i (by omega) (by omega)
  have hno : ∀ (h1 : k < l.length), k ≤ 30 → oneM l[k] = false → fewM l = false := by
    intro h1 h2 h3
    have : (l.take 31).all oneM = false := by
      rw [List.all_eq_false]
      refine ⟨l[k], ?_, by simp [h3]⟩
      rw [List.mem_take_iff_getElem]
      exact ⟨k, by omega, rfl⟩
    simp [fewM, this]
  simp only [F7.st2]
  by_cases h1 : k < l.length
  · refine ct (by simp; omega) ?_
    by_cases h2 : k ≤ 30
    · refine ct (by simp; omega) (ct (by simp; omega) ?_)
      simp only [elems_slice, Int.toNat_natCast, ix_map h1]
      have ht : ((l[k].enc.at 2).s) = l[k].text := rfl
      have hn : ((l[k].enc.at 1).s) = l[k].name := rfl
      rw [ht, hn]
      by_cases h3 : l[k].text.size ≤ 700
      · refine cf (by simp; omega) (ct (by simp; omega) ?_)
        by_cases h4 : l[k].name.size ≤ 200
        · refine cf (by simp; omega) ?_
          have hadd : ad .i64 (k : Int) 1 = ((k + 1 : Nat) : Int) := by rw [ad64 (by omega) (by omega)]; rfl
          rw [hadd]
          refine hrec _ ⟨k + 1, rfl, by omega, ?_⟩ (by simp; omega)
          intro i hi hik
          by_cases hik' : i = k
          · subst hik'; simp [oneM, h3, h4]
          · exact hs i hi (by omega)
        · refine ct (by simp; omega) ?_
          rw [hno h1 h2 (by simp [oneM, h4])]
      · refine ct (by simp; omega) ?_
        rw [hno h1 h2 (by simp [oneM, h3])]
    · refine cf (by simp; omega) ?_
      have : ¬ l.length ≤ 30 := by omega
      simp [fewM, this, leI]
      try omega
  · refine cf (by simp; omega) ?_
    have := hall (fun i hi hi2 => hs i hi (by omega))
    simp [fewM, this, leI]
    omega
structure Mo.ok (o : Mo) : Prop where
  kind : i64ok o.kind
  time : i64ok o.time
  a : i64ok o.a
  b : i64ok o.b
theorem mo_of {d : D} (h : D.has ty d (.struct [50, 9, 9, 3, 3, 3])) (hw : D.wf d) : ∃ o : Mo, d = o.enc ∧ o.ok := by
  obtain ⟨ds, rfl, hh⟩ := hass_struct h
  clear h
  have hf : List.map ty [50, 9, 9, 3, 3, 3] = [.int .i64, .str, .str, .int .i64, .int .i64, .int .i64] := rfl
  rw [hf] at hh
  obtain ⟨d0, _, rfl, h0, hh⟩ := hassC hh
  obtain ⟨d1, _, rfl, h1, hh⟩ := hassC hh
  obtain ⟨d2, _, rfl, h2, hh⟩ := hassC hh
  obtain ⟨d3, _, rfl, h3, hh⟩ := hassC hh
  obtain ⟨d4, _, rfl, h4, hh⟩ := hassC hh
  obtain ⟨d5, _, rfl, h5, hh⟩ := hassC hh
  obtain rfl := hass0 hh
  obtain ⟨x0, rfl⟩ := has_int h0
  obtain ⟨x1, rfl⟩ := has_str h1
  obtain ⟨x2, rfl⟩ := has_str h2
  obtain ⟨x3, rfl⟩ := has_int h3
  obtain ⟨x4, rfl⟩ := has_int h4
  obtain ⟨x5, rfl⟩ := has_int h5
  rw [D.wf] at hw
  simp only [D.wfs] at hw
  exact ⟨⟨x0, x1, x2, x3, x4, x5⟩, rfl, wf_i64 hw.1, wf_i64 hw.2.2.2.1, wf_i64 hw.2.2.2.2.1, wf_i64 hw.2.2.2.2.2.1⟩
theorem mos_of {d : D} (h : D.has ty d (.slice 52)) (hw : D.wf d) : ∃ (nn : Bool) (l : List Mo), d = dl nn (l.map Mo.enc) ∧ ∀ o ∈ l, o.ok := by
  obtain ⟨nn, ds, rfl, h1, h2⟩ := hass_slice h
  simp only [D.wf] at hw
  obtain ⟨l, rfl, _, hl⟩ := hass_rep (f := Mo.enc) (Q := fun o : Mo => o.ok) (fun d h1 h2 => mo_of h1 h2) h1 (by first | exact hw | exact hw.1 | exact hw.2)
  exact ⟨nn, l, rfl, hl⟩
theorem few_okM {l : List Mo} (h : fewM l = true) (hs : ∀ o ∈ l, o.ok) : l.length ≤ 30 ∧ ∀ o ∈ l, MoOk o := by
  unfold fewM at h
  simp only [Bool.and_eq_true, decide_eq_true_eq, List.all_eq_true] at h
  refine ⟨h.1, fun o ho => ?_⟩
  have h2 := h.2 o (by rw [List.take_of_length_le (by omega)]; exact ho)
  simp only [oneM, Bool.and_eq_true, decide_eq_true_eq] at h2
  exact ⟨(hs o ho).kind, (hs o ho).time, (hs o ho).a, (hs o ho).b, by omega, by omega⟩
end Go.AM.SZ
namespace Go.AM.SZ
open Go Go.AM Go.Proofs Go.RowKit
namespace F8
def k0_ : K := (.struct [25, 3, 3])
def cons : List (Nat × Con) := [(15, F15.c)]
def exts : List (Nat × Ext) := []
def h : List (Nat × Nat × Hint) := [(8, 4, { live := [2, 4, 7, 8, 13, 14, 15], rows := [(7, 41), (8, 58)] })]
noncomputable def e (M : Nat) : Env := env cons exts h M
structure S4 where
  (n1 n2 n3 n4 : Nat) (d5 : D) (i6 i7 : Int) (d8 : D) (b9 : Bool) (l10 : List D) (i11 i12 : Int) (b13 : Bool) (l14 : List D) (b15 : Bool) (l16 : List D)
inductive X4 where
  | e0 (n1 n2 n3 n4 : Nat) (d5 : D) (i6 i7 : Int) (d8 : D) (b9 : Bool) (l10 : List D) (i11 i12 : Int) (b13 : Bool) (l14 : List D) (b15 : Bool) (l16 : List D)
def st4 (M : Nat) : S4 → (S4 → Option D) → (X4 → Option D) → Option D
  | ⟨n1, n2, n3, n4, d5, i6, i7, d8, b9, l10, i11, i12, b13, l14, b15, l16⟩, rec, K => (cond (ltI i7 i6) (cond (inb i7 d5.elems.length) (bd (F15.s FUEL d8 (ix d5.elems i7.toNat)) fun r17 => (cond (mx (n2 + 1)) (cond (mx (n4 + (r17.at 2).elems.length)) (rec ⟨0, (n2 + 1), 0, (n4 + (r17.at 2).elems.length), d5, i6, (ad .i64 i7 1), (r17.at 0), b9, l10, i11, i12, (b13 || true), (ap ((l14.drop n1).take n2) [(r17.at 1)]), (b15 || (!(r17.at 2).elems.isEmpty)), (ap ((l16.drop n3).take n4) (r17.at 2).elems)⟩) none) none)) none) (K (.e0 n1 n2 n3 n4 d5 i6 i7 d8 b9 l10 i11 i12 b13 l14 b15 l16)))
def lv4 : S4 → List Leaf
  | ⟨n1, n2, n3, n4, d5, i6, i7, d8, b9, l10, i11, i12, b13, l14, b15, l16⟩ => [.n n1, .n n2, .n n3, .n n4, .d d5, .i i6, .i i7, .d d8, .b b9, .l l10, .i i11, .i i12, .b b13, .l l14, .b b15, .l l16]
def of4 : List Leaf → Option S4
  | [.n n1, .n n2, .n n3, .n n4, .d d5, .i i6, .i i7, .d d8, .b b9, .l l10, .i i11, .i i12, .b b13, .l l14, .b b15, .l l16] => some ⟨n1, n2, n3, n4, d5, i6, i7, d8, b9, l10, i11, i12, b13, l14, b15, l16⟩
  | _ => none
def ex4 (k : Kont) : X4 → Option D
  | .e0 n1 n2 n3 n4 d5 i6 i7 d8 b9 l10 i11 i12 b13 l14 b15 l16 => k (.exit 0) ((us 2 ((.ptr 0 [] k0_) :: (us 1 ((.ptr 1 [] k0_) :: (us 2 ((.sref 2 n1 n2) :: (.sref 3 n3 n4) :: (us 4 ((vk (.slice 52) d5) :: (vi i6) :: (vi i7) :: (vb (ltI i7 i6)) :: (us 20 [])))))))))) [(.var k0_ (vk k0_ d8)), (.var k0_ (vk k0_ (da [(dl b9 l10), (di i11), (di i12)]))), (.row 41 true b13 l14), (.row 58 true b15 l16)]
def ps4 : List PV := ((up 2 ((.ptr 0 [] k0_) :: (up 1 ((.ptr 1 [] k0_) :: (up 2 ((.sref 2) :: (.sref 3) :: (up 4 ((.d (.slice 52) .x) :: (.d (.int .i64) (.int .i64)) :: (.d (.int .i64) (.int .i64)) :: (up 21 []))))))))))
def qs4 : List PO := [(.var k0_ (.d k0_ .x)), (.var k0_ (.d k0_ (.agg [.slice, (.int .i64), (.int .i64)]))), (.row 41 true), (.row 58 true)]
noncomputable def t (M : Nat) : List Ent := ⟨8, 11, 0, 4, sumS [2, 4, 7, 8, 13, 14, 15] ps4 qs4 [(7, 2), (8, 3)] of4 (st4 M) ex4 M⟩ :: []
theorem t_ok (M : Nat) : AllOk (e M) (tblOf (t M)) := AllOk.addS (n0 := 4) (lv := lv4) AllOk.nil (by kernel_rfl) rfl (by intro ls s h; unfold of4 at h; (repeat' split at h) <;> simp at h; subst h; rfl) (by intro s; kernel_rfl) (by intro s; kernel_rfl) (by intro s nx k; kernel_rfl)
def s (M : Nat) (p0 : D) (p1 : D) : Option D :=
  (goS (st4 M) M ⟨0, 0, 0, 0, p1, (nI p1.elems.length), 0, p0, false, [], 0, 0, false, [], false, []⟩ fun x => match x with | .e0 n1 n2 n3 n4 d5 i6 i7 d8 b9 l10 i11 i12 b13 l14 b15 l16 => (some (D.tup [d8, (dl b13 ((l14.drop n1).take n2)), (dl b15 ((l16.drop n3).take n4))])))
theorem run (M : Nat) (p0 : D) (p1 : D) : callS (e M) (tblOf (t M)) 12 (.fn 8) [.d (.struct [25, 3, 3]) p0, .d (.slice 52) p1] [] (fun v H => finish ty [27, 28, 29] v H) = s M p0 p1 := by kernel_rfl
def c : Con := { run := fun ds => match ds with | [p0, p1] => s FUEL p0 p1 | _ => none }
theorem ok : ConOk (8, c) := mkC Tryz.f8 [(.struct [25, 3, 3]), (.slice 52)] [27, 28, 29] (by kernel_rfl) (by kernel_rfl) (by kernel_rfl) (by kernel_rfl) (allCons F15.ok allNil) allNil (t_ok FUEL) fun a => run FUEL a.1 a.2.1
end F8
namespace F47
def cons : List (Nat × Con) := []
def exts : List (Nat × Ext) := []
def h : List (Nat × Nat × Hint) := []
noncomputable def e (M : Nat) : Env := env cons exts h M
def s (M : Nat) (p0 : Int) (p1 : Int) : Option D :=
  (cond (geI p0 0) (some (db (leI p0 p1))) (some (db false)))
theorem run (M : Nat) (p0 : Int) (p1 : Int) : callS (e M) (tblOf []) 12 (.fn 47) [.d (.int .i64) (di p0), .d (.int .i64) (di p1)] [] (fun v H => finish ty [4] v H) = s M p0 p1 := by kernel_rfl
def c : Con := { run := fun ds => match ds with | [p0, p1] => s FUEL p0.i p1.i | _ => none, plain := true }
theorem ok : ConOk (47, c) := mkC Tryz.f47 [(.int .i64), (.int .i64)] [4] (by kernel_rfl) (by kernel_rfl) (by kernel_rfl) (by kernel_rfl) allNil allNil AllOk.nil fun a => run FUEL a.1 a.2.1
end F47
namespace F48
def k0_ : K := (.struct [3, 9, 9, 4, 3, 37])
def cons : List (Nat × Con) := [(70, F70.c), (101, F101.c), (102, F102.c)]
def exts : List (Nat × Ext) := []
def h : List (Nat × Nat × Hint) := [(48, 6, { live := [1, 50, 51, 52] })]
noncomputable def e (M : Nat) : Env := env cons exts h M
structure S6 where
  (d3 : D) (i4 i5 : Int) (d6 : D)
inductive X6 where
  | e0 (d3 : D) (i4 i5 : Int) (d6 r7 : D)
  | e1 (d3 : D) (i4 i5 : Int) (d6 r7 r8 : D)
  | e2 (d3 : D) (i4 i5 : Int) (d6 : D)
def st6 (M : Nat) : S6 → (S6 → Option D) → (X6 → Option D) → Option D
  | ⟨d3, i4, i5, d6⟩, rec, K => (cond (ltI i5 i4) (cond (inb i5 d3.elems.length) (bd (F70.s FUEL (ix d3.elems i5.toNat).s) fun r7 => (cond (!r7.b) (K (.e0 d3 i4 i5 d6 r7)) (cond (gtI i5 0) (cond (inb (sb .i64 i5 1) (d6.at 5).elems.length) (bd (F102.s FUEL (ix (d6.at 5).elems (sb .i64 i5 1).toNat).s (ix d3.elems i5.toNat).s) fun r8 => (cond (!r8.b) (K (.e1 d3 i4 i5 d6 r7 r8)) (rec ⟨d3, i4, (ad .i64 i5 1), d6⟩))) none) (rec ⟨d3, i4, (ad .i64 i5 1), d6⟩)))) none) (K (.e2 d3 i4 i5 d6)))
def lv6 : S6 → List Leaf
  | ⟨d3, i4, i5, d6⟩ => [.d d3, .i i4, .i i5, .d d6]
def of6 : List Leaf → Option S6
  | [.d d3, .i i4, .i i5, .d d6] => some ⟨d3, i4, i5, d6⟩
  | _ => none
def ex6 (k : Kont) : X6 → Option D
  | .e0 d3 i4 i5 d6 r7 => k .ret ((us 1 ((.ptr 0 [] k0_) :: (vb false) :: (vi i5) :: (vk .str (ix d3.elems i5.toNat)) :: (us 45 ((vk (.slice 9) d3) :: (vi i4) :: (vi i5) :: (vb (ltI i5 i4)) :: (vi i5) :: (.cptr .str (ix d3.elems i5.toNat)) :: (vk .str (ix d3.elems i5.toNat)) :: (vk .str (ix d3.elems i5.toNat)) :: (vk .bool r7) :: (vb (!r7.b)) :: (vb true) :: v0 :: v0 :: v0 :: v0 :: v0 :: v0 :: v0 :: v0 :: v0 :: v0 :: v0 :: v0 :: v0 :: (vb true) :: (us 1 [])))))) [(.var k0_ (vk k0_ d6))]
  | .e1 d3 i4 i5 d6 r7 r8 => k .ret ((us 1 ((.ptr 0 [] k0_) :: (vb false) :: (vi i5) :: (vk .str (ix d3.elems i5.toNat)) :: (us 45 ((vk (.slice 9) d3) :: (vi i4) :: (vi i5) :: (vb (ltI i5 i4)) :: (vi i5) :: (.cptr .str (ix d3.elems i5.toNat)) :: (vk .str (ix d3.elems i5.toNat)) :: (vk .str (ix d3.elems i5.toNat)) :: (vk .bool r7) :: (vb (!r7.b)) :: (vb false) :: (vi i5) :: (vb (gtI i5 0)) :: (vb true) :: (.ptr 0 [5] (.slice 9)) :: (vk (.slice 9) (d6.at 5)) :: (vi i5) :: (vi (sb .i64 i5 1)) :: (.cptr .str (ix (d6.at 5).elems (sb .i64 i5 1).toNat)) :: (vk .str (ix (d6.at 5).elems (sb .i64 i5 1).toNat)) :: (vk .str (ix d3.elems i5.toNat)) :: (vk .bool r8) :: (vb (!r8.b)) :: (vb (!r8.b)) :: (vb (!r8.b)) :: (us 1 [])))))) [(.var k0_ (vk k0_ d6))]
  | .e2 d3 i4 i5 d6 => k (.exit 0) ((us 1 ((.ptr 0 [] k0_) :: (us 48 ((vk (.slice 9) d3) :: (vi i4) :: (vi i5) :: (vb (ltI i5 i4)) :: (us 22 [])))))) [(.var k0_ (vk k0_ d6))]
def ps6 : List PV := ((up 1 ((.ptr 0 [] k0_) :: (up 48 ((.d (.slice 9) .x) :: (.d (.int .i64) (.int .i64)) :: (.d (.int .i64) (.int .i64)) :: (up 23 []))))))
def qs6 : List PO := [(.var k0_ (.d k0_ .x))]
noncomputable def t (M : Nat) : List Ent := ⟨48, 11, 0, 6, sumS [1, 50, 51, 52] ps6 qs6 [] of6 (st6 M) ex6 M⟩ :: []
theorem t_ok (M : Nat) : AllOk (e M) (tblOf (t M)) := AllOk.addS (n0 := 1) (lv := lv6) AllOk.nil (by kernel_rfl) rfl (by intro ls s h; unfold of6 at h; (repeat' split at h) <;> simp at h; subst h; rfl) (by intro s; kernel_rfl) (by intro s; kernel_rfl) (by intro s nx k; kernel_rfl)
def s (M : Nat) (p0 : D) : Option D :=
  (bd (F101.s FUEL (p0.at 0).i) fun r1 => (cond (!r1.b) (some (db false)) (bd (F70.s FUEL (p0.at 1).s) fun r2 => (cond (!r2.b) (some (db false)) (cond (gtI (nI (p0.at 2).s.size) 600) (some (db false)) (cond (ltI (p0.at 4).i 0) (some (db false)) (cond (gtI (p0.at 4).i 1099511627776) (some (db false)) (cond (gtI (nI (p0.at 5).elems.length) 4) (some (db false)) (cond (!(p0.at 3).b) (cond (eqI (p0.at 4).i 0) (some (db (eqI (nI (p0.at 5).elems.length) 0))) (some (db false))) (goS (st6 M) M ⟨(p0.at 5), (nI (p0.at 5).elems.length), 0, p0⟩ fun x => match x with | .e0 d3 i4 i5 d6 r7 => (some (db false)) | .e1 d3 i4 i5 d6 r7 r8 => (some (db false)) | .e2 d3 i4 i5 d6 => (some (db true))))))))))))
theorem run (M : Nat) (p0 : D) : callS (e M) (tblOf (t M)) 12 (.fn 48) [.d (.struct [3, 9, 9, 4, 3, 37]) p0] [] (fun v H => finish ty [4] v H) = s M p0 := by kernel_rfl
def c : Con := { run := fun ds => match ds with | [p0] => s FUEL p0 | _ => none, plain := true }
theorem ok : ConOk (48, c) := mkC Tryz.f48 [(.struct [3, 9, 9, 4, 3, 37])] [4] (by kernel_rfl) (by kernel_rfl) (by kernel_rfl) (by kernel_rfl) (allCons F70.ok (allCons F101.ok (allCons F102.ok allNil))) allNil (t_ok FUEL) fun a => run FUEL a.1
end F48
namespace F26
def k0_ : K := (.struct [25, 3, 3])
def k1_ : K := (.struct [3, 9, 9, 4, 3, 37])
def cons : List (Nat × Con) := [(25, F25.c), (47, F47.c), (48, F48.c)]
def exts : List (Nat × Ext) := []
def h : List (Nat × Nat × Hint) := [(26, 4, { live := [1, 22, 23, 24] })]
noncomputable def e (M : Nat) : Env := env cons exts h M
structure S4 where
  (d3 : D) (i4 i5 : Int) (d6 : D)
inductive X4 where
  | e0 (d3 : D) (i4 i5 : Int) (d6 r7 : D)
  | e1 (d3 : D) (i4 i5 : Int) (d6 r7 : D)
  | e2 (d3 : D) (i4 i5 : Int) (d6 r7 r8 : D)
  | e3 (d3 : D) (i4 i5 : Int) (d6 r7 r8 : D)
  | e4 (d3 : D) (i4 i5 : Int) (d6 : D)
def st4 (M : Nat) : S4 → (S4 → Option D) → (X4 → Option D) → Option D
  | ⟨d3, i4, i5, d6⟩, rec, K => (cond (ltI i5 i4) (cond (inb i5 d3.elems.length) (bd (F48.s FUEL (ix d3.elems i5.toNat)) fun r7 => (cond (!r7.b) (K (.e0 d3 i4 i5 d6 r7)) (cond (gtI ((ix d3.elems i5.toNat).at 0).i (d6.at 1).i) (K (.e1 d3 i4 i5 d6 r7)) (bd (F25.s FUEL d6 ((ix d3.elems i5.toNat).at 1).s) fun r8 => (cond (neI r8.i i5) (K (.e2 d3 i4 i5 d6 r7 r8)) (cond (gtI i5 0) (cond (inb (sb .i64 i5 1) (d6.at 0).elems.length) (cond (geI ((ix (d6.at 0).elems (sb .i64 i5 1).toNat).at 0).i ((ix d3.elems i5.toNat).at 0).i) (K (.e3 d3 i4 i5 d6 r7 r8)) (rec ⟨d3, i4, (ad .i64 i5 1), d6⟩)) none) (rec ⟨d3, i4, (ad .i64 i5 1), d6⟩))))))) none) (K (.e4 d3 i4 i5 d6)))
def lv4 : S4 → List Leaf
  | ⟨d3, i4, i5, d6⟩ => [.d d3, .i i4, .i i5, .d d6]
def of4 : List Leaf → Option S4
  | [.d d3, .i i4, .i i5, .d d6] => some ⟨d3, i4, i5, d6⟩
  | _ => none
def ex4 (k : Kont) : X4 → Option D
  | .e0 d3 i4 i5 d6 r7 => k .ret ((us 1 ((.ptr 0 [] k0_) :: (vb false) :: (vi i5) :: (.ptr 1 [] k1_) :: (us 17 ((vk (.slice 39) d3) :: (vi i4) :: (vi i5) :: (vb (ltI i5 i4)) :: (vi i5) :: (.cptr k1_ (ix d3.elems i5.toNat)) :: (vk k1_ (ix d3.elems i5.toNat)) :: (vk k1_ (ix d3.elems i5.toNat)) :: (vk .bool r7) :: (vb (!r7.b)) :: (vb true) :: v0 :: v0 :: v0 :: v0 :: v0 :: (vb true) :: (vb true) :: v0 :: v0 :: v0 :: v0 :: v0 :: v0 :: (vb true) :: (vb true) :: v0 :: v0 :: v0 :: v0 :: v0 :: v0 :: v0 :: v0 :: v0 :: v0 :: v0 :: v0 :: v0 :: v0 :: (vb true) :: (us 1 [])))))) [(.var k0_ (vk k0_ d6)), (.var k1_ (vk k1_ (ix d3.elems i5.toNat)))]
  | .e1 d3 i4 i5 d6 r7 => k .ret ((us 1 ((.ptr 0 [] k0_) :: (vb false) :: (vi i5) :: (.ptr 1 [] k1_) :: (us 17 ((vk (.slice 39) d3) :: (vi i4) :: (vi i5) :: (vb (ltI i5 i4)) :: (vi i5) :: (.cptr k1_ (ix d3.elems i5.toNat)) :: (vk k1_ (ix d3.elems i5.toNat)) :: (vk k1_ (ix d3.elems i5.toNat)) :: (vk .bool r7) :: (vb (!r7.b)) :: (vb false) :: (.ptr 1 [0] (.int .i64)) :: (vk (.int .i64) ((ix d3.elems i5.toNat).at 0)) :: (.ptr 0 [1] (.int .i64)) :: (vk (.int .i64) (d6.at 1)) :: (vb (gtI ((ix d3.elems i5.toNat).at 0).i (d6.at 1).i)) :: (vb (gtI ((ix d3.elems i5.toNat).at 0).i (d6.at 1).i)) :: (vb true) :: v0 :: v0 :: v0 :: v0 :: v0 :: v0 :: (vb true) :: (vb true) :: v0 :: v0 :: v0 :: v0 :: v0 :: v0 :: v0 :: v0 :: v0 :: v0 :: v0 :: v0 :: v0 :: v0 :: (vb true) :: (us 1 [])))))) [(.var k0_ (vk k0_ d6)), (.var k1_ (vk k1_ (ix d3.elems i5.toNat)))]
  | .e2 d3 i4 i5 d6 r7 r8 => k .ret ((us 1 ((.ptr 0 [] k0_) :: (vb false) :: (vi i5) :: (.ptr 1 [] k1_) :: (us 17 ((vk (.slice 39) d3) :: (vi i4) :: (vi i5) :: (vb (ltI i5 i4)) :: (vi i5) :: (.cptr k1_ (ix d3.elems i5.toNat)) :: (vk k1_ (ix d3.elems i5.toNat)) :: (vk k1_ (ix d3.elems i5.toNat)) :: (vk .bool r7) :: (vb (!r7.b)) :: (vb false) :: (.ptr 1 [0] (.int .i64)) :: (vk (.int .i64) ((ix d3.elems i5.toNat).at 0)) :: (.ptr 0 [1] (.int .i64)) :: (vk (.int .i64) (d6.at 1)) :: (vb (gtI ((ix d3.elems i5.toNat).at 0).i (d6.at 1).i)) :: (vb (gtI ((ix d3.elems i5.toNat).at 0).i (d6.at 1).i)) :: (vb false) :: (vk k0_ d6) :: (.ptr 1 [1] .str) :: (vk .str ((ix d3.elems i5.toNat).at 1)) :: (vk (.int .i64) r8) :: (vi i5) :: (vb (neI r8.i i5)) :: (vb (neI r8.i i5)) :: (vb true) :: v0 :: v0 :: v0 :: v0 :: v0 :: v0 :: v0 :: v0 :: v0 :: v0 :: v0 :: v0 :: v0 :: v0 :: (vb true) :: (us 1 [])))))) [(.var k0_ (vk k0_ d6)), (.var k1_ (vk k1_ (ix d3.elems i5.toNat)))]
  | .e3 d3 i4 i5 d6 r7 r8 => k .ret ((us 1 ((.ptr 0 [] k0_) :: (vb false) :: (vi i5) :: (.ptr 1 [] k1_) :: (us 17 ((vk (.slice 39) d3) :: (vi i4) :: (vi i5) :: (vb (ltI i5 i4)) :: (vi i5) :: (.cptr k1_ (ix d3.elems i5.toNat)) :: (vk k1_ (ix d3.elems i5.toNat)) :: (vk k1_ (ix d3.elems i5.toNat)) :: (vk .bool r7) :: (vb (!r7.b)) :: (vb false) :: (.ptr 1 [0] (.int .i64)) :: (vk (.int .i64) ((ix d3.elems i5.toNat).at 0)) :: (.ptr 0 [1] (.int .i64)) :: (vk (.int .i64) (d6.at 1)) :: (vb (gtI ((ix d3.elems i5.toNat).at 0).i (d6.at 1).i)) :: (vb (gtI ((ix d3.elems i5.toNat).at 0).i (d6.at 1).i)) :: (vb false) :: (vk k0_ d6) :: (.ptr 1 [1] .str) :: (vk .str ((ix d3.elems i5.toNat).at 1)) :: (vk (.int .i64) r8) :: (vi i5) :: (vb (neI r8.i i5)) :: (vb (neI r8.i i5)) :: (vb false) :: (vi i5) :: (vb (gtI i5 0)) :: (vb true) :: (.ptr 0 [0] (.slice 39)) :: (vk (.slice 39) (d6.at 0)) :: (vi i5) :: (vi (sb .i64 i5 1)) :: (.cptr k1_ (ix (d6.at 0).elems (sb .i64 i5 1).toNat)) :: (.cptr (.int .i64) ((ix (d6.at 0).elems (sb .i64 i5 1).toNat).at 0)) :: (vk (.int .i64) ((ix (d6.at 0).elems (sb .i64 i5 1).toNat).at 0)) :: (.ptr 1 [0] (.int .i64)) :: (vk (.int .i64) ((ix d3.elems i5.toNat).at 0)) :: (vb (geI ((ix (d6.at 0).elems (sb .i64 i5 1).toNat).at 0).i ((ix d3.elems i5.toNat).at 0).i)) :: (vb (geI ((ix (d6.at 0).elems (sb .i64 i5 1).toNat).at 0).i ((ix d3.elems i5.toNat).at 0).i)) :: (vb (geI ((ix (d6.at 0).elems (sb .i64 i5 1).toNat).at 0).i ((ix d3.elems i5.toNat).at 0).i)) :: (us 1 [])))))) [(.var k0_ (vk k0_ d6)), (.var k1_ (vk k1_ (ix d3.elems i5.toNat)))]
  | .e4 d3 i4 i5 d6 => k (.exit 0) ((us 1 ((.ptr 0 [] k0_) :: (us 20 ((vk (.slice 39) d3) :: (vi i4) :: (vi i5) :: (vb (ltI i5 i4)) :: (us 38 [])))))) [(.var k0_ (vk k0_ d6))]
def ps4 : List PV := ((up 1 ((.ptr 0 [] k0_) :: (up 20 ((.d (.slice 39) .x) :: (.d (.int .i64) (.int .i64)) :: (.d (.int .i64) (.int .i64)) :: (up 39 []))))))
def qs4 : List PO := [(.var k0_ (.d k0_ .x))]
noncomputable def t (M : Nat) : List Ent := ⟨26, 11, 0, 4, sumS [1, 22, 23, 24] ps4 qs4 [] of4 (st4 M) ex4 M⟩ :: []
theorem t_ok (M : Nat) : AllOk (e M) (tblOf (t M)) := AllOk.addS (n0 := 1) (lv := lv4) AllOk.nil (by kernel_rfl) rfl (by intro ls s h; unfold of4 at h; (repeat' split at h) <;> simp at h; subst h; rfl) (by intro s; kernel_rfl) (by intro s; kernel_rfl) (by intro s nx k; kernel_rfl)
def s (M : Nat) (p0 : D) : Option D :=
  (cond (gtI (nI (p0.at 0).elems.length) 12) (some (db false)) (bd (F47.s FUEL (p0.at 1).i 1099511627776) fun r1 => (cond (!r1.b) (some (db false)) (bd (F47.s FUEL (p0.at 2).i 1099511627776) fun r2 => (cond (!r2.b) (some (db false)) (goS (st4 M) M ⟨(p0.at 0), (nI (p0.at 0).elems.length), 0, p0⟩ fun x => match x with | .e0 d3 i4 i5 d6 r7 => (some (db false)) | .e1 d3 i4 i5 d6 r7 => (some (db false)) | .e2 d3 i4 i5 d6 r7 r8 => (some (db false)) | .e3 d3 i4 i5 d6 r7 r8 => (some (db false)) | .e4 d3 i4 i5 d6 => (some (db true))))))))
theorem run (M : Nat) (p0 : D) : callS (e M) (tblOf (t M)) 12 (.fn 26) [.d (.struct [25, 3, 3]) p0] [] (fun v H => finish ty [4] v H) = s M p0 := by kernel_rfl
def c : Con := { run := fun ds => match ds with | [p0] => s FUEL p0 | _ => none, plain := true }
theorem ok : ConOk (26, c) := mkC Tryz.f26 [(.struct [25, 3, 3])] [4] (by kernel_rfl) (by kernel_rfl) (by kernel_rfl) (by kernel_rfl) (allCons F25.ok (allCons F47.ok (allCons F48.ok allNil))) allNil (t_ok FUEL) fun a => run FUEL a.1
end F26
namespace F27
def k0_ : K := (.struct [25, 3, 3])
def k1_ : K := (.struct [3, 9, 9, 4, 3, 37])
def cons : List (Nat × Con) := [(40, F40.c)]
def exts : List (Nat × Ext) := []
def h : List (Nat × Nat × Hint) := [(49, 4, { live := [1, 2, 15, 16, 17] })]
def q0_ : PO := (.var k0_ (.d k0_ .x))
noncomputable def e (M : Nat) : Env := env cons exts h M
structure S49_4 where
  (d1 d2 : D) (i3 i4 : Int) (d5 d6 : D)
inductive X49_4 where
  | e0 (d1 d2 : D) (i3 i4 : Int) (d5 d6 r7 : D)
  | e1 (d1 d2 : D) (i3 i4 : Int) (d5 d6 : D)
def st49_4 (M : Nat) : S49_4 → (S49_4 → Option D) → (X49_4 → Option D) → Option D
  | ⟨d1, d2, i3, i4, d5, d6⟩, rec, K => (cond (ltI i4 i3) (cond (inb i4 d2.elems.length) (cond (inb i4 d1.elems.length) (bd (F40.s FUEL (ix d2.elems i4.toNat) (ix d1.elems i4.toNat)) fun r7 => (cond (!r7.b) (K (.e0 d1 d2 i3 i4 d5 d6 r7)) (rec ⟨d1, d2, i3, (ad .i64 i4 1), d5, d6⟩))) none) none) (K (.e1 d1 d2 i3 i4 d5 d6)))
def lv49_4 : S49_4 → List Leaf
  | ⟨d1, d2, i3, i4, d5, d6⟩ => [.d d1, .d d2, .i i3, .i i4, .d d5, .d d6]
def of49_4 : List Leaf → Option S49_4
  | [.d d1, .d d2, .i i3, .i i4, .d d5, .d d6] => some ⟨d1, d2, i3, i4, d5, d6⟩
  | _ => none
def ex49_4 (k : Kont) : X49_4 → Option D
  | .e0 d1 d2 i3 i4 d5 d6 r7 => k .ret ((us 1 ((vk (.slice 39) d1) :: (vk .func (D.fn 40)) :: (us 3 ((vb false) :: (vi i4) :: (.ptr 2 [] k1_) :: (.ptr 3 [] k1_) :: (us 5 ((vk (.slice 39) d2) :: (vi i3) :: (vi i4) :: (vb (ltI i4 i3)) :: (vi i4) :: (.cptr k1_ (ix d2.elems i4.toNat)) :: (vk k1_ (ix d2.elems i4.toNat)) :: (vk (.slice 39) d1) :: (vi i4) :: (.cptr k1_ (ix d1.elems i4.toNat)) :: (vk k1_ (ix d1.elems i4.toNat)) :: (vk .func (D.fn 40)) :: (vk k1_ (ix d2.elems i4.toNat)) :: (vk k1_ (ix d1.elems i4.toNat)) :: (vk .bool r7) :: (vb (!r7.b)) :: (us 1 [])))))))) [(.var k0_ (vk k0_ d5)), (.var k0_ (vk k0_ d6)), (.var k1_ (vk k1_ (ix d2.elems i4.toNat))), (.var k1_ (vk k1_ (ix d1.elems i4.toNat)))]
  | .e1 d1 d2 i3 i4 d5 d6 => k (.exit 0) ((us 1 ((vk (.slice 39) d1) :: (vk .func (D.fn 40)) :: (us 12 ((vk (.slice 39) d2) :: (vi i3) :: (vi i4) :: (vb (ltI i4 i3)) :: (us 13 [])))))) [(.var k0_ (vk k0_ d5)), (.var k0_ (vk k0_ d6))]
def ps49_4 : List PV := ((up 1 ((.d (.slice 39) .x) :: (.d .func (.fn 40)) :: (up 12 ((.d (.slice 39) .x) :: (.d (.int .i64) (.int .i64)) :: (.d (.int .i64) (.int .i64)) :: (up 14 []))))))
def qs49_4 : List PO := [q0_, q0_]
noncomputable def t (M : Nat) : List Ent := ⟨49, 10, 2, 4, sumS [1, 2, 15, 16, 17] ps49_4 qs49_4 [] of49_4 (st49_4 M) ex49_4 M⟩ :: []
theorem t_ok (M : Nat) : AllOk (e M) (tblOf (t M)) := AllOk.addS (n0 := 2) (lv := lv49_4) AllOk.nil (by kernel_rfl) rfl (by intro ls s h; unfold of49_4 at h; (repeat' split at h) <;> simp at h; subst h; rfl) (by intro s; kernel_rfl) (by intro s; kernel_rfl) (by intro s nx k; kernel_rfl)
def s (M : Nat) (p0 : D) (p1 : D) : Option D :=
  (cond (eqI (p0.at 1).i (p1.at 1).i) (cond (eqI (p0.at 2).i (p1.at 2).i) (cond (neI (nI (p0.at 0).elems.length) (nI (p1.at 0).elems.length)) (some (db false)) (goS (st49_4 M) M ⟨(p1.at 0), (p0.at 0), (nI (p0.at 0).elems.length), 0, p0, p1⟩ fun x => match x with | .e0 d1 d2 i3 i4 d5 d6 r7 => (some (db false)) | .e1 d1 d2 i3 i4 d5 d6 => (some (db true)))) (some (db false))) (some (db false)))
theorem run (M : Nat) (p0 : D) (p1 : D) : callS (e M) (tblOf (t M)) 12 (.fn 27) [.d (.struct [25, 3, 3]) p0, .d (.struct [25, 3, 3]) p1] [] (fun v H => finish ty [4] v H) = s M p0 p1 := by kernel_rfl
def c : Con := { run := fun ds => match ds with | [p0, p1] => s FUEL p0 p1 | _ => none, plain := true }
theorem ok : ConOk (27, c) := mkC Tryz.f27 [(.struct [25, 3, 3]), (.struct [25, 3, 3])] [4] (by kernel_rfl) (by kernel_rfl) (by kernel_rfl) (by kernel_rfl) (allCons F40.ok allNil) allNil (t_ok FUEL) fun a => run FUEL a.1 a.2.1
end F27
namespace F6
def cons : List (Nat × Con) := [(8, F8.c), (15, F15.c), (25, F25.c), (26, F26.c), (27, F27.c)]
def exts : List (Nat × Ext) := []
def h : List (Nat × Nat × Hint) := []
noncomputable def e (M : Nat) : Env := env cons exts h M
def s (M : Nat)  : Option D :=
  (bd (F8.s FUEL (da [(dl false []), (di 0), (di 0)]) (dl true [(da [(di 0), (dS (bs [97])), (dS (bs [])), (di 0), (di 0), (di 0)]), (da [(di 1), (dS (bs [97])), (dS (bs [97, 98])), (di 0), (di 0), (di 0)]), (da [(di 2), (dS (bs [97])), (dS (bs [])), (di 5), (di 0), (di 0)]), (da [(di 7), (dS (bs [])), (dS (bs [])), (di 5), (di 0), (di 0)])])) fun r1 => (cond (neI (nI (r1.at 1).elems.length) 4) (some (db false)) (cond (neI (nI (r1.at 2).elems.length) 4) (some (db false)) (bd (F25.s FUEL (r1.at 0) (bs [97])) fun r2 => (cond (neI r2.i 0) (some (db false)) (bd (F15.s FUEL (r1.at 0) (da [(di 9), (dS (bs [97])), (dS (bs [])), (di 0), (di 0), (di 2)])) fun r3 => (bd (F15.s FUEL (r1.at 0) (da [(di 8), (dS (bs [])), (dS (bs [])), (di 0), (di 0), (di 0)])) fun r4 => (cond (inb 0 (r1.at 1).elems.length) (cond (eqI ((ix (r1.at 1).elems 0).at 1).i 1) (cond (inb 1 (r1.at 1).elems.length) (cond (eqI ((ix (r1.at 1).elems 1).at 1).i 2) (cond (inb 3 (r1.at 1).elems.length) (cond (eqI ((ix (r1.at 1).elems 3).at 1).i 5) (cond (eqS ((r3.at 1).at 2).s (bs [97, 98])) (cond (eqI ((r4.at 1).at 1).i 1) (cond (eqI (nI (r4.at 2).elems.length) 1) (cond (inb 0 (r4.at 2).elems.length) (bd (match D.eqv ty eqDepth (ix (r4.at 2).elems 0) (da [(di 6), (di 1), (dS (bs [])), (di 0), (di 0), (da (rp 32 (D.int .u8 0)))]) (.struct [50, 3, 9, 3, 3, 56]) with | some z => some (.bool z) | none => none) fun r5 => (cond r5.b (cond (eqI (nI ((r4.at 0).at 0).elems.length) 0) (cond (eqI ((r4.at 0).at 1).i 1) (cond (eqI ((r4.at 0).at 2).i 5) (bd (F26.s FUEL (r1.at 0)) fun r6 => (cond r6.b (bd (F27.s FUEL (r1.at 0) (r1.at 0)) fun r7 => (cond r7.b (bd (F27.s FUEL (r1.at 0) (r4.at 0)) fun r8 => (some (db (!r8.b)))) (some (db false)))) (some (db false)))) (some (db false))) (some (db false))) (some (db false))) (some (db false)))) none) (some (db false))) (some (db false))) (some (db false))) (some (db false))) none) (some (db false))) none) (some (db false))) none))))))))
theorem run (M : Nat)  : callS (e M) (tblOf []) 12 (.fn 6) [] [] (fun v H => finish ty [4] v H) = s M  := by kernel_rfl
def c : Con := { run := fun ds => match ds with | [] => s FUEL  | _ => none, plain := true }
theorem ok : ConOk (6, c) := mkC Tryz.f6 [] [4] (by kernel_rfl) (by kernel_rfl) (by kernel_rfl) (by kernel_rfl) (allCons F8.ok (allCons F15.ok (allCons F25.ok (allCons F26.ok (allCons F27.ok allNil))))) allNil AllOk.nil fun _ => run FUEL
end F6
namespace F50
def k0_ : K := (.struct [25, 3, 3])
def cons : List (Nat × Con) := []
def exts : List (Nat × Ext) := []
def h : List (Nat × Nat × Hint) := [(50, 2, { live := [1, 2, 5] })]
noncomputable def e (M : Nat) : Env := env cons exts h M
structure S2 where
  (s1 : ByteArray) (i2 : Int) (d3 : D)
inductive X2 where
  | e0 (s1 : ByteArray) (i2 : Int) (d3 : D)
  | e1 (s1 : ByteArray) (i2 : Int) (d3 : D)
def st2 (M : Nat) : S2 → (S2 → Option D) → (X2 → Option D) → Option D
  | ⟨s1, i2, d3⟩, rec, K => (cond (ltI i2 (nI (d3.at 0).elems.length)) (cond (inb i2 (d3.at 0).elems.length) (cond (eqS ((ix (d3.at 0).elems i2.toNat).at 1).s s1) (K (.e0 s1 i2 d3)) (rec ⟨s1, (ad .i64 i2 1), d3⟩)) none) (K (.e1 s1 i2 d3)))
def lv2 : S2 → List Leaf
  | ⟨s1, i2, d3⟩ => [.s s1, .i i2, .d d3]
def of2 : List Leaf → Option S2
  | [.s s1, .i i2, .d d3] => some ⟨s1, i2, d3⟩
  | _ => none
def ex2 (k : Kont) : X2 → Option D
  | .e0 s1 i2 d3 => k .ret ((us 1 ((vS s1) :: (.ptr 0 [] k0_) :: (us 1 ((vi i2) :: (vi i2) :: (vi i2) :: (.ptr 0 [0] (.slice 39)) :: (vk (.slice 39) (d3.at 0)) :: (vi (nI (d3.at 0).elems.length)) :: (vb (ltI i2 (nI (d3.at 0).elems.length))) :: (us 2 ((.ptr 0 [0] (.slice 39)) :: (vk (.slice 39) (d3.at 0)) :: (vi i2) :: (.cptr (.struct [3, 9, 9, 4, 3, 37]) (ix (d3.at 0).elems i2.toNat)) :: (.cptr .str ((ix (d3.at 0).elems i2.toNat).at 1)) :: (vk .str ((ix (d3.at 0).elems i2.toNat).at 1)) :: (vS s1) :: (vb (eqS ((ix (d3.at 0).elems i2.toNat).at 1).s s1)) :: (vi i2) :: []))))))) [(.var k0_ (vk k0_ d3))]
  | .e1 s1 i2 d3 => k (.exit 0) ((us 1 ((vS s1) :: (.ptr 0 [] k0_) :: (us 2 ((vi i2) :: (vi i2) :: (.ptr 0 [0] (.slice 39)) :: (vk (.slice 39) (d3.at 0)) :: (vi (nI (d3.at 0).elems.length)) :: (vb (ltI i2 (nI (d3.at 0).elems.length))) :: (us 11 [])))))) [(.var k0_ (vk k0_ d3))]
def ps2 : List PV := ((up 1 ((.d .str .str) :: (.ptr 0 [] k0_) :: (up 2 ((.d (.int .i64) (.int .i64)) :: (up 16 []))))))
def qs2 : List PO := [(.var k0_ (.d k0_ .x))]
noncomputable def t (M : Nat) : List Ent := ⟨50, 11, 0, 2, sumS [1, 2, 5] ps2 qs2 [] of2 (st2 M) ex2 M⟩ :: []
theorem t_ok (M : Nat) : AllOk (e M) (tblOf (t M)) := AllOk.addS (n0 := 1) (lv := lv2) AllOk.nil (by kernel_rfl) rfl (by intro ls s h; unfold of2 at h; (repeat' split at h) <;> simp at h; subst h; rfl) (by intro s; kernel_rfl) (by intro s; kernel_rfl) (by intro s nx k; kernel_rfl)
def s (M : Nat) (p0 : D) (p1 : ByteArray) : Option D :=
  (goS (st2 M) M ⟨p1, 0, p0⟩ fun x => match x with | .e0 s1 i2 d3 => (some (di i2)) | .e1 s1 i2 d3 => (some (di (-1))))
theorem run (M : Nat) (p0 : D) (p1 : ByteArray) : callS (e M) (tblOf (t M)) 12 (.fn 50) [.d (.struct [25, 3, 3]) p0, .d .str (dS p1)] [] (fun v H => finish ty [3] v H) = s M p0 p1 := by kernel_rfl
def c : Con := { run := fun ds => match ds with | [p0, p1] => s FUEL p0 p1.s | _ => none, plain := true }
theorem ok : ConOk (50, c) := mkC Tryz.f50 [(.struct [25, 3, 3]), .str] [3] (by kernel_rfl) (by kernel_rfl) (by kernel_rfl) (by kernel_rfl) allNil allNil (t_ok FUEL) fun a => run FUEL a.1 a.2.1
end F50
namespace F137
def cons : List (Nat × Con) := []
def exts : List (Nat × Ext) := []
def h : List (Nat × Nat × Hint) := [(137, 22, { live := [0, 5, 6, 7, 8] })]
noncomputable def e (M : Nat) : Env := env cons exts h M
structure S22 where
  (s1 : ByteArray) (i2 i3 i4 i5 : Int)
inductive X22 where
  | e0 (s1 : ByteArray) (i2 i3 i4 i5 : Int)
  | e1 (s1 : ByteArray) (i2 i3 i4 i5 : Int)
  | e2 (s1 : ByteArray) (i2 i3 i4 i5 : Int)
def st22 (M : Nat) : S22 → (S22 → Option D) → (X22 → Option D) → Option D
  | ⟨s1, i2, i3, i4, i5⟩, rec, K => (cond (ltI i5 i2) (cond (inb i5 s1.size) (cond (ltI (cv .i64 (byteAt s1 i5.toNat)) 128) (K (.e0 s1 i2 i3 i4 i5)) (cond (gtI (cv .i64 (byteAt s1 i5.toNat)) 191) (K (.e1 s1 i2 i3 i4 i5)) (rec ⟨s1, i2, i3, (sb .i64 (ad .i64 (ml .i64 i4 64) (cv .i64 (byteAt s1 i5.toNat))) 128), (ad .i64 i5 1)⟩))) none) (K (.e2 s1 i2 i3 i4 i5)))
def lv22 : S22 → List Leaf
  | ⟨s1, i2, i3, i4, i5⟩ => [.s s1, .i i2, .i i3, .i i4, .i i5]
def of22 : List Leaf → Option S22
  | [.s s1, .i i2, .i i3, .i i4, .i i5] => some ⟨s1, i2, i3, i4, i5⟩
  | _ => none
def ex22 (k : Kont) : X22 → Option D
  | .e0 s1 i2 i3 i4 i5 => k .ret ((vS s1) :: (us 1 ((vi (-1)) :: (vi 1) :: (us 1 ((vi i2) :: (vi i3) :: (vi i4) :: (vi i5) :: (vi (cv .i64 (byteAt s1 i5.toNat))) :: (us 38 ((vi i5) :: (vi i2) :: (vb (ltI i5 i2)) :: (us 2 ((vS s1) :: (vi i5) :: (vk (.int .u8) (D.int .u8 (byteAt s1 i5.toNat))) :: (vi (cv .i64 (byteAt s1 i5.toNat))) :: (vi (cv .i64 (byteAt s1 i5.toNat))) :: (vb (ltI (cv .i64 (byteAt s1 i5.toNat)) 128)) :: (vb true) :: v0 :: v0 :: (vb true) :: (us 22 [])))))))))) []
  | .e1 s1 i2 i3 i4 i5 => k .ret ((vS s1) :: (us 1 ((vi (-1)) :: (vi 1) :: (us 1 ((vi i2) :: (vi i3) :: (vi i4) :: (vi i5) :: (vi (cv .i64 (byteAt s1 i5.toNat))) :: (us 38 ((vi i5) :: (vi i2) :: (vb (ltI i5 i2)) :: (us 2 ((vS s1) :: (vi i5) :: (vk (.int .u8) (D.int .u8 (byteAt s1 i5.toNat))) :: (vi (cv .i64 (byteAt s1 i5.toNat))) :: (vi (cv .i64 (byteAt s1 i5.toNat))) :: (vb (ltI (cv .i64 (byteAt s1 i5.toNat)) 128)) :: (vb false) :: (vi (cv .i64 (byteAt s1 i5.toNat))) :: (vb (gtI (cv .i64 (byteAt s1 i5.toNat)) 191)) :: (vb (gtI (cv .i64 (byteAt s1 i5.toNat)) 191)) :: (us 22 [])))))))))) []
  | .e2 s1 i2 i3 i4 i5 => k (.exit 0) ((vS s1) :: (us 4 ((vi i2) :: (vi i3) :: (vi i4) :: (vi i5) :: (us 39 ((vi i5) :: (vi i2) :: (vb (ltI i5 i2)) :: (us 34 [])))))) []
def ps22 : List PV := ((.d .str .str) :: (up 4 ((.d (.int .i64) (.int .i64)) :: (.d (.int .i64) (.int .i64)) :: (.d (.int .i64) (.int .i64)) :: (.d (.int .i64) (.int .i64)) :: (up 76 []))))
def qs22 : List PO := []
noncomputable def t (M : Nat) : List Ent := ⟨137, 11, 0, 22, sumS [0, 5, 6, 7, 8] ps22 qs22 [] of22 (st22 M) ex22 M⟩ :: []
theorem t_ok (M : Nat) : AllOk (e M) (tblOf (t M)) := AllOk.addS (n0 := 0) (lv := lv22) AllOk.nil (by kernel_rfl) rfl (by intro ls s h; unfold of22 at h; (repeat' split at h) <;> simp at h; subst h; rfl) (by intro s; kernel_rfl) (by intro s; kernel_rfl) (by intro s nx k; kernel_rfl)
def s (M : Nat) (p0 : ByteArray) : Option D :=
  (cond (inb 0 p0.size) (cond (ltI (cv .i64 (byteAt p0 0)) 128) (some (D.tup [(di (cv .i64 (byteAt p0 0))), (di 1)])) (cond (geI (cv .i64 (byteAt p0 0)) 194) (cond (ltI (cv .i64 (byteAt p0 0)) 224) (cond (ltI (nI p0.size) 2) (some (D.tup [(di (-1)), (di 1)])) (goS (st22 M) M ⟨p0, 2, 128, (sb .i64 (cv .i64 (byteAt p0 0)) 192), 1⟩ fun x => match x with | .e0 s1 i2 i3 i4 i5 => (some (D.tup [(di (-1)), (di 1)])) | .e1 s1 i2 i3 i4 i5 => (some (D.tup [(di (-1)), (di 1)])) | .e2 s1 i2 i3 i4 i5 => (cond (ltI i4 i3) (some (D.tup [(di (-1)), (di 1)])) (cond (gtI i4 1114111) (some (D.tup [(di (-1)), (di 1)])) (cond (geI i4 55296) (cond (leI i4 57343) (some (D.tup [(di (-1)), (di 1)])) (some (D.tup [(di i4), (di i2)]))) (some (D.tup [(di i4), (di i2)]))))))) (cond (geI (cv .i64 (byteAt p0 0)) 224) (cond (ltI (cv .i64 (byteAt p0 0)) 240) (cond (ltI (nI p0.size) 3) (some (D.tup [(di (-1)), (di 1)])) (goS (st22 M) M ⟨p0, 3, 2048, (sb .i64 (cv .i64 (byteAt p0 0)) 224), 1⟩ fun x => match x with | .e0 s1 i2 i3 i4 i5 => (some (D.tup [(di (-1)), (di 1)])) | .e1 s1 i2 i3 i4 i5 => (some (D.tup [(di (-1)), (di 1)])) | .e2 s1 i2 i3 i4 i5 => (cond (ltI i4 i3) (some (D.tup [(di (-1)), (di 1)])) (cond (gtI i4 1114111) (some (D.tup [(di (-1)), (di 1)])) (cond (geI i4 55296) (cond (leI i4 57343) (some (D.tup [(di (-1)), (di 1)])) (some (D.tup [(di i4), (di i2)]))) (some (D.tup [(di i4), (di i2)]))))))) (cond (geI (cv .i64 (byteAt p0 0)) 240) (cond (ltI (cv .i64 (byteAt p0 0)) 245) (cond (ltI (nI p0.size) 4) (some (D.tup [(di (-1)), (di 1)])) (goS (st22 M) M ⟨p0, 4, 65536, (sb .i64 (cv .i64 (byteAt p0 0)) 240), 1⟩ fun x => match x with | .e0 s1 i2 i3 i4 i5 => (some (D.tup [(di (-1)), (di 1)])) | .e1 s1 i2 i3 i4 i5 => (some (D.tup [(di (-1)), (di 1)])) | .e2 s1 i2 i3 i4 i5 => (cond (ltI i4 i3) (some (D.tup [(di (-1)), (di 1)])) (cond (gtI i4 1114111) (some (D.tup [(di (-1)), (di 1)])) (cond (geI i4 55296) (cond (leI i4 57343) (some (D.tup [(di (-1)), (di 1)])) (some (D.tup [(di i4), (di i2)]))) (some (D.tup [(di i4), (di i2)]))))))) (some (D.tup [(di (-1)), (di 1)]))) (some (D.tup [(di (-1)), (di 1)])))) (cond (geI (cv .i64 (byteAt p0 0)) 240) (cond (ltI (cv .i64 (byteAt p0 0)) 245) (cond (ltI (nI p0.size) 4) (some (D.tup [(di (-1)), (di 1)])) (goS (st22 M) M ⟨p0, 4, 65536, (sb .i64 (cv .i64 (byteAt p0 0)) 240), 1⟩ fun x => match x with | .e0 s1 i2 i3 i4 i5 => (some (D.tup [(di (-1)), (di 1)])) | .e1 s1 i2 i3 i4 i5 => (some (D.tup [(di (-1)), (di 1)])) | .e2 s1 i2 i3 i4 i5 => (cond (ltI i4 i3) (some (D.tup [(di (-1)), (di 1)])) (cond (gtI i4 1114111) (some (D.tup [(di (-1)), (di 1)])) (cond (geI i4 55296) (cond (leI i4 57343) (some (D.tup [(di (-1)), (di 1)])) (some (D.tup [(di i4), (di i2)]))) (some (D.tup [(di i4), (di i2)]))))))) (some (D.tup [(di (-1)), (di 1)]))) (some (D.tup [(di (-1)), (di 1)]))))) (cond (geI (cv .i64 (byteAt p0 0)) 224) (cond (ltI (cv .i64 (byteAt p0 0)) 240) (cond (ltI (nI p0.size) 3) (some (D.tup [(di (-1)), (di 1)])) (goS (st22 M) M ⟨p0, 3, 2048, (sb .i64 (cv .i64 (byteAt p0 0)) 224), 1⟩ fun x => match x with | .e0 s1 i2 i3 i4 i5 => (some (D.tup [(di (-1)), (di 1)])) | .e1 s1 i2 i3 i4 i5 => (some (D.tup [(di (-1)), (di 1)])) | .e2 s1 i2 i3 i4 i5 => (cond (ltI i4 i3) (some (D.tup [(di (-1)), (di 1)])) (cond (gtI i4 1114111) (some (D.tup [(di (-1)), (di 1)])) (cond (geI i4 55296) (cond (leI i4 57343) (some (D.tup [(di (-1)), (di 1)])) (some (D.tup [(di i4), (di i2)]))) (some (D.tup [(di i4), (di i2)]))))))) (cond (geI (cv .i64 (byteAt p0 0)) 240) (cond (ltI (cv .i64 (byteAt p0 0)) 245) (cond (ltI (nI p0.size) 4) (some (D.tup [(di (-1)), (di 1)])) (goS (st22 M) M ⟨p0, 4, 65536, (sb .i64 (cv .i64 (byteAt p0 0)) 240), 1⟩ fun x => match x with | .e0 s1 i2 i3 i4 i5 => (some (D.tup [(di (-1)), (di 1)])) | .e1 s1 i2 i3 i4 i5 => (some (D.tup [(di (-1)), (di 1)])) | .e2 s1 i2 i3 i4 i5 => (cond (ltI i4 i3) (some (D.tup [(di (-1)), (di 1)])) (cond (gtI i4 1114111) (some (D.tup [(di (-1)), (di 1)])) (cond (geI i4 55296) (cond (leI i4 57343) (some (D.tup [(di (-1)), (di 1)])) (some (D.tup [(di i4), (di i2)]))) (some (D.tup [(di i4), (di i2)]))))))) (some (D.tup [(di (-1)), (di 1)]))) (some (D.tup [(di (-1)), (di 1)])))) (cond (geI (cv .i64 (byteAt p0 0)) 240) (cond (ltI (cv .i64 (byteAt p0 0)) 245) (cond (ltI (nI p0.size) 4) (some (D.tup [(di (-1)), (di 1)])) (goS (st22 M) M ⟨p0, 4, 65536, (sb .i64 (cv .i64 (byteAt p0 0)) 240), 1⟩ fun x => match x with | .e0 s1 i2 i3 i4 i5 => (some (D.tup [(di (-1)), (di 1)])) | .e1 s1 i2 i3 i4 i5 => (some (D.tup [(di (-1)), (di 1)])) | .e2 s1 i2 i3 i4 i5 => (cond (ltI i4 i3) (some (D.tup [(di (-1)), (di 1)])) (cond (gtI i4 1114111) (some (D.tup [(di (-1)), (di 1)])) (cond (geI i4 55296) (cond (leI i4 57343) (some (D.tup [(di (-1)), (di 1)])) (some (D.tup [(di i4), (di i2)]))) (some (D.tup [(di i4), (di i2)]))))))) (some (D.tup [(di (-1)), (di 1)]))) (some (D.tup [(di (-1)), (di 1)])))))) none)
theorem run (M : Nat) (p0 : ByteArray) : callS (e M) (tblOf (t M)) 12 (.fn 137) [.d .str (dS p0)] [] (fun v H => finish ty [3, 3] v H) = s M p0 := by kernel_rfl
def c : Con := { run := fun ds => match ds with | [p0] => s FUEL p0.s | _ => none, plain := true }
theorem ok : ConOk (137, c) := mkC Tryz.f137 [.str] [3, 3] (by kernel_rfl) (by kernel_rfl) (by kernel_rfl) (by kernel_rfl) allNil allNil (t_ok FUEL) fun a => run FUEL a.1
end F137
namespace F103
def cons : List (Nat × Con) := [(137, F137.c)]
def exts : List (Nat × Ext) := []
def h : List (Nat × Nat × Hint) := [(103, 3, { live := [0, 3, 4], rows := [(3, 3)] })]
noncomputable def e (M : Nat) : Env := env cons exts h M
structure S3 where
  (s1 : ByteArray) (n2 n3 : Nat) (i4 : Int) (b5 : Bool) (l6 : List D)
inductive X3 where
  | e0 (s1 : ByteArray) (n2 n3 : Nat) (i4 : Int) (b5 : Bool) (l6 : List D)
def st3 (M : Nat) : S3 → (S3 → Option D) → (X3 → Option D) → Option D
  | ⟨s1, n2, n3, i4, b5, l6⟩, rec, K => (cond (ltI i4 (nI s1.size)) (cond ((leI 0 i4) && (leI i4 (nI s1.size)) && (leI (nI s1.size) (nI s1.size)) && (leI (nI s1.size) (nI s1.size))) (bd (F137.s FUEL (s1.extract i4.toNat s1.size)) fun r7 => (cond (ltI (r7.at 0).i 0) (cond (inb i4 s1.size) (cond (mx (n3 + 1)) (rec ⟨s1, 0, (n3 + 1), (ad .i64 i4 (r7.at 1).i), (b5 || true), (ap ((l6.drop n2).take n3) [(di (ad .i64 1114112 (cv .i64 (byteAt s1 i4.toNat))))])⟩) none) none) (cond (mx (n3 + 1)) (rec ⟨s1, 0, (n3 + 1), (ad .i64 i4 (r7.at 1).i), (b5 || true), (ap ((l6.drop n2).take n3) [(r7.at 0)])⟩) none))) none) (K (.e0 s1 n2 n3 i4 b5 l6)))
def lv3 : S3 → List Leaf
  | ⟨s1, n2, n3, i4, b5, l6⟩ => [.s s1, .n n2, .n n3, .i i4, .b b5, .l l6]
def of3 : List Leaf → Option S3
  | [.s s1, .n n2, .n n3, .i i4, .b b5, .l l6] => some ⟨s1, n2, n3, i4, b5, l6⟩
  | _ => none
def ex3 (k : Kont) : X3 → Option D
  | .e0 s1 n2 n3 i4 b5 l6 => k (.exit 0) ((vS s1) :: (us 2 ((.sref 0 n2 n3) :: (vi i4) :: (us 2 ((vi i4) :: (vS s1) :: (vi (nI s1.size)) :: (vb (ltI i4 (nI s1.size))) :: (us 22 [])))))) [(.row 3 true b5 l6)]
def ps3 : List PV := ((.d .str .str) :: (up 2 ((.sref 0) :: (.d (.int .i64) (.int .i64)) :: (up 28 []))))
def qs3 : List PO := [(.row 3 true)]
noncomputable def t (M : Nat) : List Ent := ⟨103, 11, 0, 3, sumS [0, 3, 4] ps3 qs3 [(3, 0)] of3 (st3 M) ex3 M⟩ :: []
theorem t_ok (M : Nat) : AllOk (e M) (tblOf (t M)) := AllOk.addS (n0 := 1) (lv := lv3) AllOk.nil (by kernel_rfl) rfl (by intro ls s h; unfold of3 at h; (repeat' split at h) <;> simp at h; subst h; rfl) (by intro s; kernel_rfl) (by intro s; kernel_rfl) (by intro s nx k; kernel_rfl)
def s (M : Nat) (p0 : ByteArray) : Option D :=
  (goS (st3 M) M ⟨p0, 0, 0, 0, false, []⟩ fun x => match x with | .e0 s1 n2 n3 i4 b5 l6 => (cond ((decide (n3 = l6.length)) && (decide (n2 = 0))) (some (.slice b5 l6)) none))
theorem run (M : Nat) (p0 : ByteArray) : callS (e M) (tblOf (t M)) 12 (.fn 103) [.d .str (dS p0)] [] (fun v H => finishFresh ty [152] v H) = s M p0 := by kernel_rfl
def c : Con := { run := fun ds => match ds with | [p0] => s FUEL p0.s | _ => none, fresh := true }
theorem ok : ConOk (103, c) := mkF Tryz.f103 [.str] [152] (by kernel_rfl) (by kernel_rfl) (by kernel_rfl) (allCons F137.ok allNil) allNil (t_ok FUEL) fun a => run FUEL a.1
end F103
end Go.AM.SZ
