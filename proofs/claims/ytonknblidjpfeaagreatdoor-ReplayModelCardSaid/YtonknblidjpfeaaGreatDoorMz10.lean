/- Part 10 of the proof: the abstract machine, what the functions compute, and plain laws over that. -/
import Derived.Test.YtonknblidjpfeaaGreatDoorMz9
import Derived.Lib.MapLaws
set_option linter.all false
set_option linter.unusedSimpArgs false
set_option linter.unusedVariables false
set_option linter.unusedSectionVars false
namespace Go.AM.SZ
open Go Go.AM
theorem lexB_irrefl : ∀ l : List Int, lexB l l = false
  | [] => rfl
  | x :: l => by simp only [lexB, if_true]; exact lexB_irrefl l
theorem lexB_trans : ∀ {a b c : List Int}, lexB a b = true → lexB b c = true → lexB a c = true
  | [], [], _, h, _ => by simp [lexB] at h
  | [], _ :: _, [], _, h => by simp [lexB] at h
  | [], _ :: _, _ :: _, _, _ => rfl
  | _ :: _, [], _, h, _ => by simp [lexB] at h
  | _ :: _, _ :: _, [], _, h => by simp [lexB] at h
  | x :: a, y :: b, z :: c, h1, h2 => by
    simp only [lexB] at h1 h2 ⊢
    split at h1
    · subst x
      split at h2
      · subst y; rw [if_pos rfl]; exact lexB_trans h1 h2
      · rename_i h; rw [if_neg h]; exact h2
    · split at h2
      · subst y; rename_i h; rw [if_neg h]; exact h1
      · simp only [decide_eq_true_eq] at h1 h2
        rw [if_neg (by omega)]
        simp only [decide_eq_true_eq]; omega
theorem lexB_tri : ∀ a b : List Int, lexB a b = true ∨ a = b ∨ lexB b a = true
  | [], [] => .inr (.inl rfl)
  | [], _ :: _ => .inl rfl
  | _ :: _, [] => .inr (.inr rfl)
  | x :: a, y :: b => by
    simp only [lexB]
    by_cases h : x = y
    · subst h
      simp only [if_true]
      rcases lexB_tri a b with h | h | h
      · exact .inl h
      · subst h; exact .inr (.inl rfl)
      · exact .inr (.inr h)
    · rw [if_neg h, if_neg (by omega)]
      simp only [decide_eq_true_eq]
      omega
theorem dec_L (s : ByteArray) (p : Nat) : Lib.decodeL (s.data.toList.drop p) = Utf8.decode s p := by
  have e : (⟨(s.data.toList.drop p).toArray⟩ : ByteArray) = s.extract p s.size := by
    apply ByteArray.ext
    apply Array.toList_inj.1
    simp
    exact (List.take_of_length_le (by rw [List.length_drop, Array.length_toList]; exact Nat.le_refl _)).symm
  unfold Lib.decodeL
  rw [e, Lib.tail_decode, Nat.add_zero]
theorem dec_top (s : ByteArray) (p : Nat) : (Utf8.decode s p).1 ≤ 1114111 := by
  rw [← dec_L, Lib.decodeL_N]
  have k0 := ((s.data.toList.drop p).getD 0 0).toNat_lt
  rcases Lib.decodeN_shape (s.data.toList.drop p).length ((s.data.toList.drop p).getD 0 0).toNat ((s.data.toList.drop p).getD 1 0).toNat ((s.data.toList.drop p).getD 2 0).toNat ((s.data.toList.drop p).getD 3 0).toNat with ⟨c, e⟩ | ⟨c1, c2, c3, cv, e⟩ | ⟨c1, c2, c3, c4, cv, cs, e⟩ | ⟨c1, c2, c3, c4, c5, cv, cw, e⟩ | e
  all_goals rw [e]; dsimp only; omega
def chunk (k : Int) : List UInt8 := if 1114112 ≤ k then [UInt8.ofNat (k - 1114112).toNat] else Lib.encodeRune k
theorem key_chunk {s : ByteArray} {p : Nat} (h : p < s.size) : (s.data.toList.drop p).take (Utf8.decode s p).2 = chunk (keyR s (p, (Utf8.decode s p).1)) := by
  have hp := decode_pos s p
  have ht := dec_top s p
  have hl : 0 < (s.data.toList.drop p).length := by
    have : s.data.toList.length = s.size := by simp
    rw [List.length_drop]; omega
  unfold keyR chunk
  by_cases hb : (Utf8.decode s p).1 = 65533 ∧ (Utf8.decode s p).2 < 2
  · have hr := byteAt_range s p
    rw [if_pos hb, if_pos (by dsimp only; omega), show (Utf8.decode s p).2 = 1 by omega, Lib.takeA _ hl]
    congr 1
    have e : (1114112 + byteAt s p - 1114112).toNat = (s.data.toList.getD p 0).toNat := by unfold byteAt; omega
    dsimp only
    rw [e]
    have : (List.drop p s.data.toList).getD 0 0 = s.data.toList.getD p 0 := by simp [List.getD_eq_getElem?_getD]
    rw [this]; simp
  · rw [if_neg hb, if_neg (by dsimp only; omega)]
    have := Lib.encode_decode (s.data.toList.drop p) (List.length_pos_iff.1 hl) (by rw [dec_L]; omega)
    rw [dec_L] at this
    exact this.symm
theorem keys_inj_from {s t : ByteArray} : ∀ (n p q : Nat), s.size - p ≤ n → (runesFrom s p).map (keyR s) = (runesFrom t q).map (keyR t) → s.data.toList.drop p = t.data.toList.drop q := by
  have ls : s.data.toList.length = s.size := by simp
  have lt : t.data.toList.length = t.size := by simp
  intro n
  induction n with
  | zero =>
    intro p q hn h
    rw [runesFrom_end (by omega)] at h
    by_cases hq : q < t.size
    · rw [runesFrom_step hq] at h; simp at h
    · rw [List.drop_of_length_le (by omega), List.drop_of_length_le (by omega)]
  | succ n ih =>
    intro p q hn h
    by_cases hp : p < s.size
    · by_cases hq : q < t.size
      · rw [runesFrom_step hp, runesFrom_step hq] at h
        simp only [List.map_cons, List.cons.injEq] at h
        have h1 := decode_pos s p
        have := ih (p + (Utf8.decode s p).2) (q + (Utf8.decode t q).2) (by omega) h.2
        rw [← List.drop_drop, ← List.drop_drop] at this
        have e1 := key_chunk hp
        have e2 := key_chunk hq
        rw [h.1] at e1
        rw [← List.take_append_drop (Utf8.decode s p).2 (s.data.toList.drop p), e1, this, ← e2, List.take_append_drop]
      · rw [runesFrom_step hp, runesFrom_end (s := t) (by omega)] at h; simp at h
    · rw [runesFrom_end (by omega)] at h
      by_cases hq : q < t.size
      · rw [runesFrom_step hq] at h; simp at h
      · rw [List.drop_of_length_le (by omega), List.drop_of_length_le (by omega)]
theorem keys_inj {s t : ByteArray} (h : keys s = keys t) : s = t := by
  have := keys_inj_from (s := s) (t := t) s.size 0 0 (by omega) (by simpa [keys, runes, runesFrom] using h)
  apply ByteArray.ext
  apply Array.toList_inj.1
  simpa using this
theorem less_irrefl (a : ByteArray) : lessB a a = false := lexB_irrefl _
theorem less_trans {a b c : ByteArray} (h1 : lessB a b = true) (h2 : lessB b c = true) : lessB a c = true := lexB_trans h1 h2
theorem less_tri (a b : ByteArray) : lessB a b = true ∨ a = b ∨ lessB b a = true := by
  rcases lexB_tri (keys a) (keys b) with h | h | h
  · exact .inl h
  · exact .inr (.inl (keys_inj h))
  · exact .inr (.inr h)
theorem less_of_not {a b : ByteArray} (h : lessB a b = false) (hn : a ≠ b) : lessB b a = true := by
  rcases less_tri a b with h' | h' | h'
  · rw [h] at h'; simp at h'
  · exact absurd h' hn
  · exact h'
theorem insH_rise {s : ByteArray} {l : List ByteArray} (h : riseB l) (hs : hasB l s = false) : riseB (insH s l) := by
  have hne : ∀ y ∈ l, s ≠ y := by
    intro y hy
    simp only [hasB, List.any_eq_false, decide_eq_true_eq] at hs
    exact hs y hy
  unfold insH
  unfold riseB at h ⊢
  cases hx : l.findIdx? (fun y => !lessB y s) with
  | none =>
    dsimp only
    rw [List.findIdx?_eq_none_iff] at hx
    rw [List.pairwise_append]
    refine ⟨h, by simp, fun a ha b hb => ?_⟩
    simp only [List.mem_singleton] at hb
    subst hb
    simpa using hx a ha
  | some i =>
    dsimp only
    rw [List.findIdx?_eq_some_iff_getElem] at hx
    obtain ⟨hi, h1, h2⟩ := hx
    have hat : lessB s l[i] = true := less_of_not (by simpa using h1) (fun e => hne _ (List.getElem_mem hi) e.symm)
    have hd : ∀ b ∈ l.drop i, lessB s b = true := by
      intro b hb
      rw [List.drop_eq_getElem_cons hi, List.mem_cons] at hb
      rcases hb with rfl | hb
      · exact hat
      · have hp := h.sublist (List.drop_sublist i l)
        rw [List.drop_eq_getElem_cons hi, List.pairwise_cons] at hp
        exact less_trans hat (hp.1 b hb)
    have ht : ∀ a ∈ l.take i, lessB a s = true := by
      intro a ha
      obtain ⟨j, hj, rfl⟩ := List.getElem_of_mem ha
      simp only [List.length_take] at hj
      have := h2 j (by omega)
      simpa using this
    have hmix : ∀ a ∈ l.take i, ∀ b ∈ l.drop i, lessB a b = true := fun a ha b hb => less_trans (ht a ha) (hd b hb)
    rw [List.pairwise_append, List.pairwise_append]
    refine ⟨⟨h.sublist (List.take_sublist i l), by simp, fun a ha b hb => ?_⟩, h.sublist (List.drop_sublist i l), fun a ha b hb => ?_⟩
    · simp only [List.mem_singleton] at hb; subst hb; exact ht a ha
    · simp only [List.mem_append, List.mem_singleton] at ha
      rcases ha with ha | rfl
      · exact hmix a ha b hb
      · exact hd b hb
theorem insN_perm (x : ByteArray) : ∀ l, (insN x l).Perm (x :: l)
  | [] => List.Perm.refl _
  | y :: l => by
    unfold insN
    split
    · exact List.Perm.refl _
    · exact ((insN_perm x l).cons y).trans (List.Perm.swap x y l)
theorem insN_rise {x : ByteArray} : ∀ {l : List ByteArray}, riseB l → x ∉ l → riseB (insN x l)
  | [], _, _ => by simp [insN, riseB]
  | y :: l, h, hx => by
    unfold insN
    unfold riseB at h ⊢
    simp only [List.mem_cons, not_or] at hx
    split
    · rename_i hl
      rw [List.pairwise_cons]
      refine ⟨fun b hb => ?_, h⟩
      rcases List.mem_cons.1 hb with rfl | hb
      · exact hl
      · exact less_trans hl ((List.pairwise_cons.1 h).1 b hb)
    · rename_i hl
      have hyx := less_of_not (by simpa using hl) hx.1
      rw [List.pairwise_cons] at h ⊢
      refine ⟨fun b hb => ?_, insN_rise h.2 hx.2⟩
      rcases List.mem_cons.1 ((insN_perm x l).mem_iff.1 hb) with rfl | hb
      · exact hyx
      · exact h.1 b hb
theorem sortN_go : ∀ (l acc : List ByteArray), (l.foldl (fun acc x => insN x acc) acc).Perm (l ++ acc) ∧ (riseB acc → (l ++ acc).Nodup → riseB (l.foldl (fun acc x => insN x acc) acc))
  | [], acc => ⟨List.Perm.refl _, fun h _ => h⟩
  | x :: l, acc => by
    obtain ⟨h1, h2⟩ := sortN_go l (insN x acc)
    have hp : (l ++ insN x acc).Perm (x :: l ++ acc) := ((insN_perm x acc).append_left l).trans List.perm_middle
    refine ⟨h1.trans hp, fun hr hn => h2 (insN_rise hr ?_) (hp.nodup_iff.2 hn)⟩
    simp only [List.cons_append, List.nodup_cons, List.mem_append, not_or] at hn
    exact hn.1.2
theorem sortN_perm (l : List ByteArray) : (sortN l).Perm l := by simpa [sortN] using (sortN_go l []).1
theorem sortN_rise {l : List ByteArray} (h : l.Nodup) : riseB (sortN l) := (sortN_go l []).2 List.Pairwise.nil (by simpa using h)
theorem rise_eq : ∀ {a b : List ByteArray}, riseB a → riseB b → a.Perm b → a = b
  | [], b, _, _, h => by simpa using h.symm.eq_nil
  | x :: a, [], _, _, h => by simpa using h.eq_nil
  | x :: a, y :: b, ha, hb, h => by
    have ha' := List.pairwise_cons.1 ha
    have hb' := List.pairwise_cons.1 hb
    have hxy : x = y := by
      rcases List.mem_cons.1 (h.mem_iff.1 (List.mem_cons_self ..)) with e | hx
      · exact e
      rcases List.mem_cons.1 (h.mem_iff.2 (List.mem_cons_self ..)) with e | hy
      · exact e.symm
      have := less_trans (hb'.1 x hx) (ha'.1 y hy)
      rw [less_irrefl] at this; simp at this
    subst hxy
    rw [rise_eq ha'.2 hb'.2 (List.Perm.cons_inv h)]
end Go.AM.SZ
namespace Go.AM.SZ
open Go Go.AM
theorem FlOk.mono {f : Fl} {a b : Int} (h : FlOk f a) (hab : a ≤ b) : FlOk f b := { h with id1 := by have := h.id1; omega }
theorem deed_keeps {f : Fl} {o : Mo} {floor last : Int} (hf : FlOk f last) (ho : MoOk o) (h0 : (deedF f o floor).2 = 0) (h6 : o.kind ≠ 6) :
    (deedF f o floor).1.id = f.id ∧ (deedF f o floor).1.name = f.name ∧ FlOk (deedF f o floor).1 last := by
  unfold deedF at h0 ⊢
  by_cases k0 : o.kind = 0
  · rw [if_pos k0] at h0; simp at h0
  rw [if_neg k0] at h0 ⊢
  by_cases k1 : o.kind = 1
  · rw [if_pos k1] at h0 ⊢
    unfold appendF at h0 ⊢
    split at h0
    · simp at h0
    split at h0
    · simp at h0
    split at h0
    · simp at h0
    rename_i h1 h2 h3
    rw [if_neg h1, if_neg h2, if_neg h3]
    refine ⟨rfl, rfl, { hf with data := ?_ }⟩
    show (f.data ++ o.text).size ≤ 600
    rw [ByteArray.size_append]; omega
  rw [if_neg k1] at h0 ⊢
  by_cases k2 : o.kind = 2
  · rw [if_pos k2] at h0 ⊢
    unfold sealF at h0 ⊢
    split at h0
    · simp at h0
    split at h0
    · simp at h0
    rename_i h1 h2
    rw [if_neg h1, if_neg h2]
    simp only [timely, Bool.not_eq_false, Bool.and_eq_true, decide_eq_true_eq] at h2
    exact ⟨rfl, rfl, { hf with until0 := h2.1, until1 := h2.2, opn := fun h => by simp at h }⟩
  rw [if_neg k2] at h0 ⊢
  by_cases k3 : o.kind = 3
  · rw [if_pos k3] at h0 ⊢
    unfold extendF at h0 ⊢
    split at h0
    · simp at h0
    split at h0
    · simp at h0
    split at h0
    · simp at h0
    rename_i h1 h2 h3
    rw [if_neg h1, if_neg h2, if_neg h3]
    simp only [timely, Bool.not_eq_false, Bool.and_eq_true, decide_eq_true_eq] at h2
    exact ⟨rfl, rfl, { hf with until0 := h2.1, until1 := h2.2, opn := fun h => absurd h h1 }⟩
  rw [if_neg k3] at h0 ⊢
  by_cases k4 : o.kind = 4
  · rw [if_pos k4] at h0 ⊢
    unfold holdF at h0 ⊢
    repeat' split at h0
    all_goals first | (simp at h0; done) | skip
    rename_i g1 g2 g3 g4
    rw [if_neg g1, if_neg g2, if_neg g3, if_neg g4]
    refine ⟨rfl, rfl, { hf with hold := ?_, hsz := ?_, hname := ?_, rise := ?_, nil := by simp, opn := fun h => absurd h g1 }⟩
    · show (insH _ _).length ≤ 4
      rw [insH_len]; omega
    · intro s hs
      rcases insH_mem hs with rfl | hs
      · exact ho.text
      · exact hf.hsz s hs
    · intro s hs
      rcases insH_mem hs with rfl | hs
      · simpa using g2
      · exact hf.hname s hs
    · exact insH_rise hf.rise (by simpa using g3)
  rw [if_neg k4] at h0 ⊢
  by_cases k5 : o.kind = 5
  · rw [if_pos k5] at h0 ⊢
    unfold releaseF at h0 ⊢
    split at h0
    · rename_i i hi
      have hsub := List.eraseIdx_sublist f.holds i
      refine ⟨rfl, rfl, { hf with hold := Nat.le_trans hsub.length_le hf.hold, hsz := fun s hs => hf.hsz s (hsub.mem hs), hname := fun s hs => hf.hname s (hsub.mem hs), rise := hf.rise.sublist hsub, nil := fun h => ?_, opn := fun h => ⟨(hf.opn h).1, ?_⟩ }⟩
      · show f.holds.eraseIdx i = []
        rw [hf.nil h]; rfl
      · show f.holds.eraseIdx i = []
        rw [(hf.opn h).2]; rfl
    · simp at h0
  rw [if_neg k5, if_neg h6] at h0
  simp at h0
theorem findM_is {s : St} {n : ByteArray} {i : Nat} (h : findM s n = some i) : ∃ hi : i < s.files.length, s.files[i].name = n := by
  obtain ⟨hi, h⟩ := findIdx_is h
  exact ⟨hi, by simpa using h⟩
theorem pairwise_set {α : Type} {R : α → α → Prop} {l : List α} {i : Nat} {x : α} (hi : i < l.length) (h : l.Pairwise R) (h1 : ∀ a, R a l[i] → R a x) (h2 : ∀ a, R l[i] a → R x a) : (l.set i x).Pairwise R := by
  rw [List.pairwise_iff_getElem] at h ⊢
  intro a b ha hb hab
  simp only [List.length_set] at ha hb
  have := h a b ha hb hab
  simp only [List.getElem_set]
  split
  · rename_i e; subst e
    rw [if_neg (by omega)]
    exact h2 _ this
  · split
    · rename_i e; subst e; exact h1 _ this
    · exact this
theorem create_ok {s : St} {o : Mo} (hs : StOk s) (ho : MoOk o) : StOk (createM s o).st := by
  unfold createM
  split
  · exact hs
  split
  · exact hs
  split
  · exact hs
  split
  · exact hs
  rename_i h1 h2 h3 h4
  have l0 := hs.last0
  have hnew : FlOk ⟨s.last + 1, o.name, bs [], false, 0, false, []⟩ (s.last + 1) :=
    { id0 := by show 1 ≤ s.last + 1; omega, id1 := Int.le_refl _, name := by simpa using h1, nsz := ho.name, data := by show (bs []).size ≤ 600; decide, until0 := by simp, until1 := by simp, hold := by simp, hsz := by simp, hname := by simp, rise := List.Pairwise.nil, nil := fun _ => rfl, opn := fun _ => ⟨rfl, rfl⟩ }
  have hno : ∀ f ∈ s.files, f.name ≠ o.name := by
    intro f hf e
    refine h2 (findI_nonneg.2 ?_)
    simp only [List.any_eq_true, decide_eq_true_eq]
    exact ⟨f, hf, e⟩
  refine { len := by simp; omega, nil := by simp, last0 := by show 0 ≤ s.last + 1; omega, last1 := by show s.last + 1 ≤ _; omega, floor0 := hs.floor0, floor1 := hs.floor1, files := ?_, rise := ?_, names := ?_ }
  · intro f hf
    simp only [List.mem_append, List.mem_singleton] at hf
    rcases hf with hf | rfl
    · exact (hs.files f hf).mono (by show s.last ≤ s.last + 1; omega)
    · exact hnew
  · rw [List.pairwise_append]
    refine ⟨hs.rise, by simp, fun a ha b hb => ?_⟩
    simp only [List.mem_singleton] at hb; subst hb
    have := (hs.files a ha).id1
    show a.id < s.last + 1
    omega
  · rw [List.pairwise_append]
    refine ⟨hs.names, by simp, fun a ha b hb => ?_⟩
    simp only [List.mem_singleton] at hb; subst hb
    exact hno a ha
theorem erase_ok {s : St} (hs : StOk s) {l : List Fl} (hl : l.Sublist s.files) : StOk { s with files := l } :=
  { len := Nat.le_trans hl.length_le hs.len
    nil := fun h => by have := hs.nil h; rw [this] at hl; exact List.sublist_nil.1 hl
    last0 := hs.last0, last1 := hs.last1, floor0 := hs.floor0, floor1 := hs.floor1
    files := fun f hf => hs.files f (hl.mem hf)
    rise := hs.rise.sublist hl, names := hs.names.sublist hl }
theorem change_ok {sum : ByteArray → List Int} {s : St} {o : Mo} (hs : StOk s) (ho : MoOk o) : StOk (changeM sum s o).st := by
  unfold changeM
  split
  · exact hs
  rename_i i hi
  split
  · exact hs
  rename_i f hf
  obtain ⟨hl, rfl⟩ := List.getElem?_eq_some_iff.1 hf
  split
  · rename_i h0
    split
    · exact erase_ok hs (List.eraseIdx_sublist s.files i)
    · rename_i h6
      have hd : (deedF s.files[i] o s.floor).2 = 0 := by
        unfold fileDo at h0
        split at h0
        · assumption
        · exact h0
      obtain ⟨e1, e2, e3⟩ := deed_keeps (hs.files _ (List.getElem_mem hl)) ho hd h6
      have hfd : (fileDo sum s.files[i] o s.floor).1 = (deedF s.files[i] o s.floor).1 := by unfold fileDo; rw [if_pos hd]
      rw [hfd]
      refine { len := by simpa using hs.len, nil := fun h => ?_, last0 := hs.last0, last1 := hs.last1, floor0 := hs.floor0, floor1 := hs.floor1, files := fun f hf => ?_, rise := ?_, names := ?_ }
      · exact absurd hl (by rw [hs.nil h]; simp)
      · rcases List.mem_or_eq_of_mem_set hf with hf | rfl
        · exact hs.files f hf
        · exact e3
      · exact pairwise_set hl hs.rise (fun a h => by rw [e1]; exact h) (fun a h => by rw [e1]; exact h)
      · exact pairwise_set hl hs.names (fun a h => by rw [e2]; exact h) (fun a h => by rw [e2]; exact h)
  · exact hs
theorem floorN_range {f t : Int} (h0 : 0 ≤ f) (h1 : f ≤ 1099511627776) : f ≤ floorN f t ∧ floorN f t ≤ 1099511627776 := by
  unfold floorN; omega
theorem tick_ok {s : St} {o : Mo} (hs : StOk s) : StOk (tickM s o).st := by
  unfold tickM
  split
  · exact hs
  · have := floorN_range (t := o.time) hs.floor0 hs.floor1
    have h0 := hs.floor0
    exact { hs with floor0 := by show 0 ≤ floorN _ _; omega, floor1 := this.2 }
theorem do_ok {sum : ByteArray → List Int} {s : St} {o : Mo} (hs : StOk s) (ho : MoOk o) : StOk (doM sum s o).st := by
  unfold doM
  repeat' split
  · exact hs
  · exact hs
  · exact create_ok hs ho
  · exact tick_ok hs
  · exact erase_ok hs (List.filter_sublist)
  · unfold readM; repeat' split
    all_goals exact hs
  · unfold statM; repeat' split
    all_goals exact hs
  · exact hs
  · exact change_ok hs ho
structure Run where
  st : St
  nnA : Bool
  ans : List An
  nnE : Bool
  evs : List Ev
def emptyS : St := ⟨false, [], 0, 0⟩
theorem emptyS_ok : StOk emptyS := ⟨by simp [emptyS], fun _ => rfl, by simp [emptyS], by simp [emptyS], by simp [emptyS], by simp [emptyS], by simp [emptyS], List.Pairwise.nil, List.Pairwise.nil⟩
end Go.AM.SZ
namespace Go.AM.SZ
open Go Go.AM
@[simp] theorem bs_size : (bs []).size = 0 := rfl
@[simp] theorem ba_beq (a : ByteArray) : (a == a) = true := by
  cases a; rename_i d
  show (d == d) = true
  simp
theorem fileDo_name {sum : ByteArray → List Int} {f : Fl} {o : Mo} {floor last : Int} (hf : FlOk f last) (ho : MoOk o) (h0 : (fileDo sum f o floor).2.2 = 0) :
    (deedF f o floor).2 = 0 ∧ (fileDo sum f o floor).1 = (deedF f o floor).1 ∧ (fileDo sum f o floor).2.1 = tellE sum f o := by
  have hd : (deedF f o floor).2 = 0 := by
    unfold fileDo at h0
    split at h0
    · assumption
    · exact h0
  unfold fileDo
  rw [if_pos hd]
  exact ⟨hd, rfl, rfl⟩
theorem do_last {sum : ByteArray → List Int} {s : St} {o : Mo} (hs : StOk s) : s.last ≤ (doM sum s o).st.last ∧ ∀ e ∈ (doM sum s o).evs, e.id ≤ (doM sum s o).st.last := by
  have l0 := hs.last0
  unfold doM
  split
  · exact ⟨Int.le_refl _, by simp [stay]⟩
  split
  · exact ⟨Int.le_refl _, by simp [stay]⟩
  split
  · unfold createM
    repeat' split
    all_goals first | exact ⟨Int.le_refl _, by simp [stay]⟩ | skip
    exact ⟨by show s.last ≤ s.last + 1; omega, by simp⟩
  split
  · unfold tickM
    split
    · exact ⟨Int.le_refl _, by simp⟩
    · exact ⟨Int.le_refl _, by simpa using l0⟩
  split
  · refine ⟨Int.le_refl _, fun e he => ?_⟩
    simp only [sweepM, dueL, List.mem_map, List.mem_filter] at he
    obtain ⟨_, ⟨f, hf, rfl⟩, rfl⟩ := he
    exact (hs.files f hf.1).id1
  split
  · unfold readM; repeat' split
    all_goals exact ⟨Int.le_refl _, by simp [stay]⟩
  split
  · unfold statM; repeat' split
    all_goals exact ⟨Int.le_refl _, by simp [stay]⟩
  split
  · exact ⟨Int.le_refl _, by simp [listM]⟩
  · unfold changeM
    split
    · exact ⟨Int.le_refl _, by simp [stay]⟩
    rename_i i hi
    split
    · exact ⟨Int.le_refl _, by simp [stay]⟩
    rename_i f hf
    obtain ⟨hl, rfl⟩ := List.getElem?_eq_some_iff.1 hf
    split
    · rename_i h0
      have hid : (fileDo sum s.files[i] o s.floor).2.1.id ≤ s.last := by
        unfold fileDo
        split
        · exact (hs.files _ (List.getElem_mem hl)).id1
        · exact l0
      split
      · exact ⟨Int.le_refl _, by simpa using hid⟩
      · exact ⟨Int.le_refl _, by simpa using hid⟩
    · exact ⟨Int.le_refl _, by simp [stay]⟩
theorem evB_of {e : Ev} (h0 : 0 ≤ e.kind) (h7 : e.kind ≤ 7) (hc : evEq (evCanon e) e = true) (hn : e.kind = 0 ∨ e.kind = 4 ∨ e.kind = 5 → nameB e.name = true) (hid : e.kind = 7 ∨ (1 ≤ e.id ∧ e.id ≤ 1099511627776)) (ht : 0 ≤ e.time ∧ e.time ≤ 1099511627776)
    (hl : (if e.kind = 1 then 1 else 0) ≤ e.len ∧ e.len ≤ 600) : evB e = true := by
  unfold evB
  simp only [Bool.and_eq_true, Bool.or_eq_true, decide_eq_true_eq]
  refine ⟨⟨h0, h7⟩, hc, ?_, hid, ht, hl⟩
  by_cases h : e.kind = 0 ∨ e.kind = 4 ∨ e.kind = 5
  · exact .inr (hn h)
  · exact .inl h
theorem bs_ne {s : ByteArray} (h : s ≠ bs []) : 1 ≤ s.size := by
  rcases Nat.eq_zero_or_pos s.size with h0 | h0
  · refine absurd ?_ h
    apply ByteArray.ext
    have : s.data.size = 0 := h0
    exact Array.eq_empty_of_size_eq_zero this
  · exact h0
theorem tell_ok {sum : ByteArray → List Int} (hsum : ∀ s, (sum s).length = 32) {f : Fl} {o : Mo} {floor last : Int} (hl : last ≤ 1099511627776) (hf : FlOk f last) (ho : MoOk o) (h : (deedF f o floor).2 = 0) :
    evB (tellE sum f o) = true ∧ (tellE sum f o).name.size ≤ 1000 ∧ (tellE sum f o).sum.length = 32 := by
  have i0 := hf.id0
  have i1 := hf.id1
  have hb : (bs []).size = 0 := rfl
  obtain ⟨kind, name, text, time, a, b⟩ := o
  unfold deedF at h
  dsimp only at h
  have ht := ho.text
  dsimp only at ht
  by_cases k0 : kind = 0
  · rw [if_pos k0] at h; simp at h
  rw [if_neg k0] at h
  by_cases k1 : kind = 1
  · rw [if_pos k1] at h; subst k1
    unfold appendF at h
    split at h
    · simp at h
    split at h
    · simp at h
    split at h
    · simp at h
    rename_i h1 h2 h3
    have := bs_ne h2
    simp only [tellE]
    refine ⟨evB_of (by simp) (by simp) (by simp [evCanon, evEq]) (by simp) (.inr ⟨i0, Int.le_trans i1 hl⟩) (by simp) (by simp; omega), by simp, by simp [zeros]⟩
  rw [if_neg k1] at h
  by_cases k2 : kind = 2
  · rw [if_pos k2] at h; subst k2
    unfold sealF at h
    split at h
    · simp at h
    split at h
    · simp at h
    rename_i h1 h2
    simp only [timely, Bool.not_eq_false, Bool.and_eq_true, decide_eq_true_eq] at h2
    have := hf.data
    simp only [tellE]
    refine ⟨evB_of (by simp) (by simp) (by simp [evCanon, evEq]) (by simp) (.inr ⟨i0, Int.le_trans i1 hl⟩) (by simpa using h2) (by simp; omega), by simp, by simpa using hsum f.data⟩
  rw [if_neg k2] at h
  by_cases k3 : kind = 3
  · rw [if_pos k3] at h; subst k3
    unfold extendF at h
    split at h
    · simp at h
    split at h
    · simp at h
    split at h
    · simp at h
    rename_i h1 h2 h3
    simp only [timely, Bool.not_eq_false, Bool.and_eq_true, decide_eq_true_eq] at h2
    simp only [tellE]
    refine ⟨evB_of (by simp) (by simp) (by simp [evCanon, evEq]) (by simp) (.inr ⟨i0, Int.le_trans i1 hl⟩) (by simpa using h2) (by simp), by simp, by simp [zeros]⟩
  rw [if_neg k3] at h
  by_cases k4 : kind = 4
  · rw [if_pos k4] at h; subst k4
    unfold holdF at h
    repeat' split at h
    all_goals first | (simp at h; done) | skip
    rename_i g1 g2 g3 g4
    simp only [tellE]
    refine ⟨evB_of (by simp) (by simp) (by simp [evCanon, evEq]) (fun _ => by simpa using g2) (.inr ⟨i0, Int.le_trans i1 hl⟩) (by simp) (by simp), by simpa using ht, by simp [zeros]⟩
  rw [if_neg k4] at h
  by_cases k5 : kind = 5
  · rw [if_pos k5] at h; subst k5
    unfold releaseF at h
    split at h
    · rename_i i hi
      obtain ⟨hi, he⟩ := findIdx_is hi
      simp only [decide_eq_true_eq] at he
      have hnm := hf.hname _ (List.getElem_mem hi)
      rw [← he] at hnm
      simp only [tellE]
      refine ⟨evB_of (by simp) (by simp) (by simp [evCanon, evEq]) (fun _ => by simpa using hnm) (.inr ⟨i0, Int.le_trans i1 hl⟩) (by simp) (by simp), by simpa using ht, by simp [zeros]⟩
    · simp at h
  rw [if_neg k5] at h
  by_cases k6 : kind = 6
  · subst k6
    simp only [tellE]
    refine ⟨evB_of (by simp) (by simp) (by simp [evCanon, evEq]) (by simp) (.inr ⟨i0, Int.le_trans i1 hl⟩) (by simp) (by simp), by simp, by simp [zeros]⟩
  · rw [if_neg k6] at h; simp at h
theorem do_events {sum : ByteArray → List Int} (hsum : ∀ s, (sum s).length = 32) {s : St} {o : Mo} (hs : StOk s) (ho : MoOk o) : ∀ e ∈ (doM sum s o).evs, evB e = true ∧ e.name.size ≤ 1000 ∧ e.sum.length = 32 := by
  have l0 := hs.last0
  have l1 := hs.last1
  have hb : (bs []).size = 0 := rfl
  unfold doM
  split
  · simp [stay]
  split
  · simp [stay]
  split
  · unfold createM
    repeat' split
    all_goals first | (simp [stay]; done) | skip
    rename_i h1 h2 h3 h4
    intro e he
    simp only [List.mem_singleton] at he
    subst he
    exact ⟨evB_of (by simp) (by simp) (by simp [evCanon, evEq]) (fun _ => by simpa using h1) (.inr ⟨by show 1 ≤ s.last + 1; omega, by show s.last + 1 ≤ _; omega⟩) (by simp) (by simp), ho.name, by simp [zeros]⟩
  split
  · unfold tickM
    split
    · simp
    · intro e he
      simp only [List.mem_singleton] at he
      subst he
      have := floorN_range (t := o.time) hs.floor0 hs.floor1
      have h0 := hs.floor0
      exact ⟨evB_of (by simp) (by simp) (by simp [evCanon, evEq]) (by simp) (.inl rfl) ⟨by show 0 ≤ floorN _ _; omega, this.2⟩ (by simp), by simp, by simp [zeros]⟩
  split
  · intro e he
    simp only [sweepM, dueL, List.mem_map, List.mem_filter] at he
    obtain ⟨_, ⟨f, hf, rfl⟩, rfl⟩ := he
    have hk := hs.files f hf.1
    have i1 := hk.id1
    exact ⟨evB_of (by simp [delEv]) (by simp [delEv]) (by simp [evCanon, evEq, delEv]) (by simp [delEv]) (.inr ⟨hk.id0, by show f.id ≤ _; omega⟩) (by simp [delEv]) (by simp [delEv]), by simp [delEv], by simp [zeros, delEv]⟩
  split
  · unfold readM; repeat' split
    all_goals simp [stay]
  split
  · unfold statM; repeat' split
    all_goals simp [stay]
  split
  · simp [listM]
  · unfold changeM
    split
    · simp [stay]
    rename_i i hi
    split
    · simp [stay]
    rename_i f hf
    obtain ⟨hl, rfl⟩ := List.getElem?_eq_some_iff.1 hf
    split
    · rename_i h0
      have hk := hs.files _ (List.getElem_mem hl)
      obtain ⟨hd, _, e2⟩ := fileDo_name hk ho h0
      have := tell_ok hsum l1 hk ho hd
      rw [← e2] at this
      split
      · intro e he
        simp only [List.mem_singleton] at he
        subst he; exact this
      · intro e he
        simp only [List.mem_singleton] at he
        subst he; exact this
    · simp [stay]
theorem do_still {sum : ByteArray → List Int} {s : St} {o : Mo} : ((doM sum s o).an.err ≠ 0 → (doM sum s o).evs = []) ∧ ((doM sum s o).evs = [] → (doM sum s o).st = s) := by
  unfold doM
  split
  · exact ⟨fun _ => rfl, fun _ => rfl⟩
  split
  · exact ⟨fun _ => rfl, fun _ => rfl⟩
  split
  · unfold createM
    repeat' split
    all_goals first | exact ⟨fun _ => rfl, fun _ => rfl⟩ | exact ⟨fun h => absurd rfl h, fun h => by simp at h⟩
  split
  · unfold tickM
    split
    · exact ⟨fun _ => rfl, fun _ => rfl⟩
    · exact ⟨fun h => absurd rfl h, fun h => by simp at h⟩
  split
  · refine ⟨fun h => absurd rfl h, fun h => ?_⟩
    simp only [sweepM, dueL, List.map_map, List.map_eq_nil_iff, List.filter_eq_nil_iff] at h ⊢
    have : (s.files.filter fun f => !decide (mayN f s.floor = 0)) = s.files := by
      rw [List.filter_eq_self]
      intro f hf
      have := h f hf
      simpa using this
    rw [this]
  split
  · unfold readM; repeat' split
    all_goals exact ⟨fun _ => rfl, fun _ => rfl⟩
  split
  · unfold statM; repeat' split
    all_goals exact ⟨fun _ => rfl, fun _ => rfl⟩
  split
  · exact ⟨fun _ => rfl, fun _ => rfl⟩
  · unfold changeM
    split
    · exact ⟨fun _ => rfl, fun _ => rfl⟩
    split
    · exact ⟨fun _ => rfl, fun _ => rfl⟩
    split
    · split
      · exact ⟨fun h => absurd rfl h, fun h => by simp at h⟩
      · exact ⟨fun h => absurd rfl h, fun h => by simp at h⟩
    · exact ⟨fun _ => rfl, fun _ => rfl⟩
end Go.AM.SZ
namespace Go.AM.SZ
open Go Go.AM
end Go.AM.SZ
namespace Go.AM.SZ
open Go Go.AM Go.Proofs Go.RowKit
namespace F33
def cons : List (Nat × Con) := []
def exts : List (Nat × Ext) := []
def h : List (Nat × Nat × Hint) := []
noncomputable def e (M : Nat) : Env := env cons exts h M
noncomputable def t33_0 (_ : Nat) : List Ent := []
theorem t33_0_ok (M : Nat) : AllOk (e M) (tblOf (t33_0 M)) := AllOk.nil
def s (M : Nat) (p0 : Int) : Option D :=
  (some (da [(di p0), (di 0), (dS (bs [])), (da [(di 0), (dS (bs [])), (dS (bs [])), (db false), (di 0), (dl false [])]), (dl false [])]))
theorem run (M : Nat) (p0 : Int) : callS (e M) (tblOf (t33_0 M)) 12 (.fn 33) [.d (.int .i64) (di p0)] [] (fun v H => finish ty [41] v H) = s M p0 := by kernel_rfl
noncomputable abbrev t (M : Nat) : List Ent := t33_0 M
theorem t_ok (M : Nat) : AllOk (e M) (tblOf (t M)) := t33_0_ok M
def c : Con := { run := fun ds => match ds with | [p0] => s FUEL p0.i | _ => none, fresh := false, plain := false }
theorem fun_at : Tryz.prog.funcs[33]? = some Tryz.f33 := by kernel_rfl
theorem params : Tryz.f33.params.toList.map ty = [(.int .i64)] := by kernel_rfl
theorem results : Tryz.f33.resultTypes.toList = [41] := by kernel_rfl
theorem ok : ConOk (33, c) := by
  intro fn hfn
  obtain rfl : Tryz.f33 = fn := Option.some.inj (fun_at.symm.trans hfn)
  refine contract_flat (n := 20) hgl (fun h => by simp at h) (fun ds r hh0 hr => ?_)
  rw [params] at hh0
  obtain ⟨p0, ds0, rfl, h0, hh1⟩ := hass_cons hh0
  obtain ⟨p0, rfl⟩ := has_int h0
  obtain rfl := hass_nil hh1
  refine ⟨e FUEL, DEPTH, tblOf (t FUEL), envOk allNil allNil, rfl, t_ok FUEL, ?_⟩
  rw [params, results]
  exact (run FUEL p0).trans hr
end F33
namespace F25
def cons : List (Nat × Con) := []
def exts : List (Nat × Ext) := []
def h : List (Nat × Nat × Hint) := [(45, 2, { live := [0, 1, 7, 8], rows := [], own := false, inpl := false })]
noncomputable def e (M : Nat) : Env := env cons exts h M
noncomputable def t25_0 (_ : Nat) : List Ent := []
theorem t25_0_ok (M : Nat) : AllOk (e M) (tblOf (t25_0 M)) := AllOk.nil
structure S45_2 where
  d1 : D
  i2 : Int
  i3 : Int
  d4 : D
  s5 : ByteArray
inductive X45_2 where
  | e0 (d1 : D) (i2 : Int) (i3 : Int) (d4 : D) (s5 : ByteArray)
  | e1 (d1 : D) (i2 : Int) (i3 : Int) (d4 : D) (s5 : ByteArray)
def st45_2 (M : Nat) : S45_2 → (S45_2 → Option D) → (X45_2 → Option D) → Option D
  | ⟨d1, i2, i3, d4, s5⟩, rec, K => (cond (ltI i3 i2) (cond (inb i3 d1.elems.length) (cond (eqS ((ix d1.elems i3.toNat).at 1).s s5) (K (.e0 d1 i2 i3 d4 s5)) (rec ⟨d1, i2, (ad .i64 i3 1), d4, s5⟩)) none) (K (.e1 d1 i2 i3 d4 s5)))
def lv45_2 : S45_2 → List Leaf
  | ⟨d1, i2, i3, d4, s5⟩ => [.d d1, .i i2, .i i3, .d d4, .s s5]
def of45_2 : List Leaf → Option S45_2
  | [.d d1, .i i2, .i i3, .d d4, .s s5] => some ⟨d1, i2, i3, d4, s5⟩
  | _ => none
def ex45_2 (k : Kont) : X45_2 → Option D
  | .e0 d1 i2 i3 d4 s5 => k .ret ((.d (.slice 39) d1) :: ((.func (.func 46) [] [(.ptr 1 [] .str)]) :: (us 2 ((.d (.int .i64) (di i3)) :: ((.d (.int .i64) (di i3)) :: (us 1 ((.d (.int .i64) (di i2)) :: ((.d (.int .i64) (di i3)) :: ((.d .bool (db (ltI i3 i2))) :: ((.d (.int .i64) (di i3)) :: ((.func (.func 46) [] [(.ptr 1 [] .str)]) :: ((.d (.slice 39) d1) :: ((.d (.int .i64) (di i3)) :: ((.cptr (.struct [3, 9, 9, 4, 3, 37]) (ix d1.elems i3.toNat)) :: ((.d (.struct [3, 9, 9, 4, 3, 37]) (ix d1.elems i3.toNat)) :: ((.d .bool (db (eqS ((ix d1.elems i3.toNat).at 1).s s5))) :: ((.d (.int .i64) (di i3)) :: (us 1 [])))))))))))))))))) [(.var (.struct [25, 3, 3]) (.d (.struct [25, 3, 3]) d4)), (.var .str (.d .str (dS s5))), (.var (.struct [3, 9, 9, 4, 3, 37]) (.d (.struct [3, 9, 9, 4, 3, 37]) (ix d1.elems i3.toNat)))]
  | .e1 d1 i2 i3 d4 s5 => k (.exit 0) ((.d (.slice 39) d1) :: ((.func (.func 46) [] [(.ptr 1 [] .str)]) :: (us 5 ((.d (.int .i64) (di i2)) :: ((.d (.int .i64) (di i3)) :: ((.d .bool (db (ltI i3 i2))) :: (us 9 []))))))) [(.var (.struct [25, 3, 3]) (.d (.struct [25, 3, 3]) d4)), (.var .str (.d .str (dS s5)))]
def ps45_2 : List PV := ((.d (.slice 39) .x) :: ((.func 46 [] [(.ptr 1 [] .str)]) :: (up 5 ((.d (.int .i64) (.int .i64)) :: ((.d (.int .i64) (.int .i64)) :: (up 10 []))))))
def qs45_2 : List PO := [(.var (.struct [25, 3, 3]) (.d (.struct [25, 3, 3]) .x)), (.var .str (.d .str .str))]
noncomputable def sum45_2 (M : Nat) : Sum := sumS [0, 1, 7, 8] ps45_2 qs45_2 [] of45_2 (st45_2 M) ex45_2 M
theorem sok45_2 (M : Nat) : SumOk (loopRd (e M) 45 2) (e M) (call (e M) 10) 45 2 (loopAt (e M) 45 2) (sum45_2 M) :=
  sumOk_st (T := tblOf (t25_0 M)) (n0 := 2) (lv := lv45_2) (t25_0_ok M) (by kernel_rfl) rfl (by intro ls s h; unfold of45_2 at h; (repeat' split at h) <;> simp at h; subst h; rfl) (by intro s; kernel_rfl) (by intro s; kernel_rfl) (by intro s nx k; kernel_rfl)
noncomputable def t25_1 (M : Nat) : List Ent := ⟨45, 10, 2, 2, sum45_2 M⟩ :: t25_0 M
theorem t25_1_ok (M : Nat) : AllOk (e M) (tblOf (t25_1 M)) := (t25_0_ok M).add ⟨45, 10, 2, 2, sum45_2 M⟩ (by kernel_rfl) (sok45_2 M)
def s (M : Nat) (p0 : D) (p1 : ByteArray) : Option D :=
  (goS (st45_2 M) M ⟨(p0.at 0), (nI (p0.at 0).elems.length), 0, p0, p1⟩ fun x => match x with | .e0 d1 i2 i3 d4 s5 => (some (di i3)) | .e1 d1 i2 i3 d4 s5 => (some (di (-1))))
theorem run (M : Nat) (p0 : D) (p1 : ByteArray) : callS (e M) (tblOf (t25_1 M)) 12 (.fn 25) [.d (.struct [25, 3, 3]) p0, .d .str (dS p1)] [] (fun v H => finish ty [3] v H) = s M p0 p1 := by kernel_rfl
noncomputable abbrev t (M : Nat) : List Ent := t25_1 M
theorem t_ok (M : Nat) : AllOk (e M) (tblOf (t M)) := t25_1_ok M
def c : Con := { run := fun ds => match ds with | [p0, p1] => s FUEL p0 p1.s | _ => none, fresh := false, plain := true }
theorem fun_at : Tryz.prog.funcs[25]? = some Tryz.f25 := by kernel_rfl
theorem params : Tryz.f25.params.toList.map ty = [(.struct [25, 3, 3]), .str] := by kernel_rfl
theorem results : Tryz.f25.resultTypes.toList = [3] := by kernel_rfl
theorem flat : Tryz.f25.resultTypes.toList.all (fun t => K.flat ty 20 (ty t)) = true := by kernel_rfl
theorem ok : ConOk (25, c) := by
  intro fn hfn
  obtain rfl : Tryz.f25 = fn := Option.some.inj (fun_at.symm.trans hfn)
  refine contract_flat (n := 20) hgl (fun _ => flat) (fun ds r hh0 hr => ?_)
  rw [params] at hh0
  obtain ⟨p0, ds0, rfl, h0, hh1⟩ := hass_cons hh0
  obtain ⟨p1, ds1, rfl, h1, hh2⟩ := hass_cons hh1
  obtain ⟨p1, rfl⟩ := has_str h1
  obtain rfl := hass_nil hh2
  refine ⟨e FUEL, DEPTH, tblOf (t FUEL), envOk allNil allNil, rfl, t_ok FUEL, ?_⟩
  rw [params, results]
  exact (run FUEL p0 p1).trans hr
end F25
namespace F101
def cons : List (Nat × Con) := []
def exts : List (Nat × Ext) := []
def h : List (Nat × Nat × Hint) := []
noncomputable def e (M : Nat) : Env := env cons exts h M
noncomputable def t101_0 (_ : Nat) : List Ent := []
theorem t101_0_ok (M : Nat) : AllOk (e M) (tblOf (t101_0 M)) := AllOk.nil
def s (M : Nat) (p0 : Int) : Option D :=
  (cond (geI p0 1) (some (db (leI p0 1099511627776))) (some (db false)))
theorem run (M : Nat) (p0 : Int) : callS (e M) (tblOf (t101_0 M)) 12 (.fn 101) [.d (.int .i64) (di p0)] [] (fun v H => finish ty [4] v H) = s M p0 := by kernel_rfl
noncomputable abbrev t (M : Nat) : List Ent := t101_0 M
theorem t_ok (M : Nat) : AllOk (e M) (tblOf (t M)) := t101_0_ok M
def c : Con := { run := fun ds => match ds with | [p0] => s FUEL p0.i | _ => none, fresh := false, plain := true }
theorem fun_at : Tryz.prog.funcs[101]? = some Tryz.f101 := by kernel_rfl
theorem params : Tryz.f101.params.toList.map ty = [(.int .i64)] := by kernel_rfl
theorem results : Tryz.f101.resultTypes.toList = [4] := by kernel_rfl
theorem flat : Tryz.f101.resultTypes.toList.all (fun t => K.flat ty 20 (ty t)) = true := by kernel_rfl
theorem ok : ConOk (101, c) := by
  intro fn hfn
  obtain rfl : Tryz.f101 = fn := Option.some.inj (fun_at.symm.trans hfn)
  refine contract_flat (n := 20) hgl (fun _ => flat) (fun ds r hh0 hr => ?_)
  rw [params] at hh0
  obtain ⟨p0, ds0, rfl, h0, hh1⟩ := hass_cons hh0
  obtain ⟨p0, rfl⟩ := has_int h0
  obtain rfl := hass_nil hh1
  refine ⟨e FUEL, DEPTH, tblOf (t FUEL), envOk allNil allNil, rfl, t_ok FUEL, ?_⟩
  rw [params, results]
  exact (run FUEL p0).trans hr
end F101
namespace F106
def cons : List (Nat × Con) := [(70, F70.c), (101, F101.c)]
def exts : List (Nat × Ext) := []
def h : List (Nat × Nat × Hint) := []
noncomputable def e (M : Nat) : Env := env cons exts h M
noncomputable def t106_0 (_ : Nat) : List Ent := []
theorem t106_0_ok (M : Nat) : AllOk (e M) (tblOf (t106_0 M)) := AllOk.nil
def s (M : Nat) (p0 : Int) (p1 : ByteArray) : Option D :=
  (bd (F70.s FUEL p1) fun r1 => (cond (!r1.b) (some (D.tup [(da [(di 0), (dS (bs [])), (dS (bs [])), (db false), (di 0), (dl false [])]), (di 2)])) (bd (F101.s FUEL p0) fun r2 => (cond (!r2.b) (some (D.tup [(da [(di 0), (dS (bs [])), (dS (bs [])), (db false), (di 0), (dl false [])]), (di 1)])) (some (D.tup [(da [(di p0), (dS p1), (dS (bs [])), (db false), (di 0), (dl false [])]), (di 0)]))))))
theorem run (M : Nat) (p0 : Int) (p1 : ByteArray) : callS (e M) (tblOf (t106_0 M)) 12 (.fn 106) [.d (.int .i64) (di p0), .d .str (dS p1)] [] (fun v H => finish ty [39, 36] v H) = s M p0 p1 := by kernel_rfl
noncomputable abbrev t (M : Nat) : List Ent := t106_0 M
theorem t_ok (M : Nat) : AllOk (e M) (tblOf (t M)) := t106_0_ok M
def c : Con := { run := fun ds => match ds with | [p0, p1] => s FUEL p0.i p1.s | _ => none, fresh := false, plain := false }
theorem fun_at : Tryz.prog.funcs[106]? = some Tryz.f106 := by kernel_rfl
theorem params : Tryz.f106.params.toList.map ty = [(.int .i64), .str] := by kernel_rfl
theorem results : Tryz.f106.resultTypes.toList = [39, 36] := by kernel_rfl
theorem ok : ConOk (106, c) := by
  intro fn hfn
  obtain rfl : Tryz.f106 = fn := Option.some.inj (fun_at.symm.trans hfn)
  refine contract_flat (n := 20) hgl (fun h => by simp at h) (fun ds r hh0 hr => ?_)
  rw [params] at hh0
  obtain ⟨p0, ds0, rfl, h0, hh1⟩ := hass_cons hh0
  obtain ⟨p0, rfl⟩ := has_int h0
  obtain ⟨p1, ds1, rfl, h1, hh2⟩ := hass_cons hh1
  obtain ⟨p1, rfl⟩ := has_str h1
  obtain rfl := hass_nil hh2
  refine ⟨e FUEL, DEPTH, tblOf (t FUEL), envOk (allCons F70.ok (allCons F101.ok allNil)) allNil, rfl, t_ok FUEL, ?_⟩
  rw [params, results]
  exact (run FUEL p0 p1).trans hr
end F106
namespace F107
def cons : List (Nat × Con) := []
def exts : List (Nat × Ext) := []
def h : List (Nat × Nat × Hint) := []
noncomputable def e (M : Nat) : Env := env cons exts h M
noncomputable def t107_0 (_ : Nat) : List Ent := []
theorem t107_0_ok (M : Nat) : AllOk (e M) (tblOf (t107_0 M)) := AllOk.nil
def s (M : Nat) (p0 : D) : Option D :=
  (cond (!p0.nn) (some (.slice false [])) (cond (mx p0.elems.length) (cond ((decide (p0.elems.length = p0.elems.length)) && true) (some (.slice true p0.elems)) none) none))
theorem run (M : Nat) (p0 : D) : callS (e M) (tblOf (t107_0 M)) 12 (.fn 107) [.d (.slice 39) p0] [] (fun v H => finishFresh ty [25] v H) = s M p0 := by kernel_rfl
noncomputable abbrev t (M : Nat) : List Ent := t107_0 M
theorem t_ok (M : Nat) : AllOk (e M) (tblOf (t M)) := t107_0_ok M
def c : Con := { run := fun ds => match ds with | [p0] => s FUEL p0 | _ => none, fresh := true, plain := false }
theorem fun_at : Tryz.prog.funcs[107]? = some Tryz.f107 := by kernel_rfl
theorem params : Tryz.f107.params.toList.map ty = [(.slice 39)] := by kernel_rfl
theorem results : Tryz.f107.resultTypes.toList = [25] := by kernel_rfl
theorem ok : ConOk (107, c) := by
  intro fn hfn
  obtain rfl : Tryz.f107 = fn := Option.some.inj (fun_at.symm.trans hfn)
  refine contract_of_fresh hgl rfl rfl (fun ds r hh0 hr => ?_)
  rw [params] at hh0
  obtain ⟨p0, ds0, rfl, h0, hh1⟩ := hass_cons hh0
  obtain rfl := hass_nil hh1
  refine ⟨e FUEL, DEPTH, tblOf (t FUEL), envOk allNil allNil, rfl, t_ok FUEL, ?_⟩
  rw [params, results]
  exact (run FUEL p0).trans hr
end F107
namespace F148
def cons : List (Nat × Con) := []
def exts : List (Nat × Ext) := []
def h : List (Nat × Nat × Hint) := []
noncomputable def e (M : Nat) : Env := env cons exts h M
noncomputable def t148_0 (_ : Nat) : List Ent := []
theorem t148_0_ok (M : Nat) : AllOk (e M) (tblOf (t148_0 M)) := AllOk.nil
def s (M : Nat) (p0 : D) (p1 : ByteArray) : Option D :=
  (cond (p0.at 3).b (some (D.tup [p0, (di 5)])) (cond (eqS p1 (bs [])) (some (D.tup [p0, (di 1)])) (cond (gtI (ad .i64 (nI (p0.at 2).s.size) (nI p1.size)) 600) (some (D.tup [p0, (di 10)])) (bd (cat (p0.at 2).s p1) fun r1 => (some (D.tup [(D.agg (p0.parts.set 2 r1)), (di 0)]))))))
theorem run (M : Nat) (p0 : D) (p1 : ByteArray) : callS (e M) (tblOf (t148_0 M)) 12 (.fn 148) [.d (.struct [3, 9, 9, 4, 3, 37]) p0, .d .str (dS p1)] [] (fun v H => finish ty [39, 36] v H) = s M p0 p1 := by kernel_rfl
noncomputable abbrev t (M : Nat) : List Ent := t148_0 M
theorem t_ok (M : Nat) : AllOk (e M) (tblOf (t M)) := t148_0_ok M
def c : Con := { run := fun ds => match ds with | [p0, p1] => s FUEL p0 p1.s | _ => none, fresh := false, plain := false }
theorem fun_at : Tryz.prog.funcs[148]? = some Tryz.f148 := by kernel_rfl
theorem params : Tryz.f148.params.toList.map ty = [(.struct [3, 9, 9, 4, 3, 37]), .str] := by kernel_rfl
theorem results : Tryz.f148.resultTypes.toList = [39, 36] := by kernel_rfl
theorem ok : ConOk (148, c) := by
  intro fn hfn
  obtain rfl : Tryz.f148 = fn := Option.some.inj (fun_at.symm.trans hfn)
  refine contract_flat (n := 20) hgl (fun h => by simp at h) (fun ds r hh0 hr => ?_)
  rw [params] at hh0
  obtain ⟨p0, ds0, rfl, h0, hh1⟩ := hass_cons hh0
  obtain ⟨p1, ds1, rfl, h1, hh2⟩ := hass_cons hh1
  obtain ⟨p1, rfl⟩ := has_str h1
  obtain rfl := hass_nil hh2
  refine ⟨e FUEL, DEPTH, tblOf (t FUEL), envOk allNil allNil, rfl, t_ok FUEL, ?_⟩
  rw [params, results]
  exact (run FUEL p0 p1).trans hr
end F148
namespace F138
def cons : List (Nat × Con) := []
def exts : List (Nat × Ext) := []
def h : List (Nat × Nat × Hint) := []
noncomputable def e (M : Nat) : Env := env cons exts h M
noncomputable def t138_0 (_ : Nat) : List Ent := []
theorem t138_0_ok (M : Nat) : AllOk (e M) (tblOf (t138_0 M)) := AllOk.nil
def s (M : Nat)  : Option D :=
  (some (dl true [(D.tup [(di 1), (D.iface 189 (D.fn 148))]), (D.tup [(di 4), (D.iface 189 (D.fn 81))]), (D.tup [(di 5), (D.iface 189 (D.fn 83))]), (D.tup [(di 2), (D.iface 191 (D.fn 76))]), (D.tup [(di 3), (D.iface 191 (D.fn 79))]), (D.tup [(di 6), (D.iface 188 (D.fn 85))])]))
theorem run (M : Nat)  : callS (e M) (tblOf (t138_0 M)) 12 (.fn 138) [] [] (fun v H => finishFresh ty [186] v H) = s M  := by kernel_rfl
noncomputable abbrev t (M : Nat) : List Ent := t138_0 M
theorem t_ok (M : Nat) : AllOk (e M) (tblOf (t M)) := t138_0_ok M
def c : Con := { run := fun ds => match ds with | [] => s FUEL  | _ => none, fresh := true, plain := false }
theorem fun_at : Tryz.prog.funcs[138]? = some Tryz.f138 := by kernel_rfl
theorem params : Tryz.f138.params.toList.map ty = [] := by kernel_rfl
theorem results : Tryz.f138.resultTypes.toList = [186] := by kernel_rfl
theorem ok : ConOk (138, c) := by
  intro fn hfn
  obtain rfl : Tryz.f138 = fn := Option.some.inj (fun_at.symm.trans hfn)
  refine contract_of_fresh hgl rfl rfl (fun ds r hh0 hr => ?_)
  rw [params] at hh0
  obtain rfl := hass_nil hh0
  refine ⟨e FUEL, DEPTH, tblOf (t FUEL), envOk allNil allNil, rfl, t_ok FUEL, ?_⟩
  rw [params, results]
  exact (run FUEL ).trans hr
end F138
namespace F130
def cons : List (Nat × Con) := []
def exts : List (Nat × Ext) := []
def h : List (Nat × Nat × Hint) := [(130, 2, { live := [0, 3], rows := [], own := false, inpl := false })]
noncomputable def e (M : Nat) : Env := env cons exts h M
noncomputable def t130_0 (_ : Nat) : List Ent := []
theorem t130_0_ok (M : Nat) : AllOk (e M) (tblOf (t130_0 M)) := AllOk.nil
structure S2 where
  i1 : Int
  i2 : Int
inductive X2 where
  | e0 (i1 : Int) (i2 : Int) (r3 : D)
  | e1 (i1 : Int) (i2 : Int)
def st2 (M : Nat) : S2 → (S2 → Option D) → (X2 → Option D) → Option D
  | ⟨i1, i2⟩, rec, K => (cond (leI (ml .i64 i2 i2) i1) (bd (if i2 = 0 then none else some (.int .i64 (remI i1 i2))) fun r3 => (cond (eqI r3.i 0) (K (.e0 i1 i2 r3)) (rec ⟨i1, (ad .i64 i2 1)⟩))) (K (.e1 i1 i2)))
def lv2 : S2 → List Leaf
  | ⟨i1, i2⟩ => [.i i1, .i i2]
def of2 : List Leaf → Option S2
  | [.i i1, .i i2] => some ⟨i1, i2⟩
  | _ => none
def ex2 (k : Kont) : X2 → Option D
  | .e0 i1 i2 r3 => k .ret ((.d (.int .i64) (di i1)) :: (us 1 ((.d .bool (db false)) :: ((.d (.int .i64) (di i2)) :: ((.d (.int .i64) (di i2)) :: ((.d (.int .i64) (di i2)) :: ((.d (.int .i64) (di (ml .i64 i2 i2))) :: ((.d (.int .i64) (di i1)) :: ((.d .bool (db (leI (ml .i64 i2 i2) i1))) :: (us 2 ((.d (.int .i64) (di i1)) :: ((.d (.int .i64) (di i2)) :: ((.d (.int .i64) r3) :: ((.d .bool (db (eqI r3.i 0))) :: (us 2 []))))))))))))))) []
  | .e1 i1 i2 => k (.exit 0) ((.d (.int .i64) (di i1)) :: (us 2 ((.d (.int .i64) (di i2)) :: ((.d (.int .i64) (di i2)) :: ((.d (.int .i64) (di i2)) :: ((.d (.int .i64) (di (ml .i64 i2 i2))) :: ((.d (.int .i64) (di i1)) :: ((.d .bool (db (leI (ml .i64 i2 i2) i1))) :: (us 8 []))))))))) []
def ps2 : List PV := ((.d (.int .i64) (.int .i64)) :: (up 2 ((.d (.int .i64) (.int .i64)) :: (up 13 []))))
def qs2 : List PO := []
noncomputable def sum2 (M : Nat) : Sum := sumS [0, 3] ps2 qs2 [] of2 (st2 M) ex2 M
theorem sok2 (M : Nat) : SumOk (loopRd (e M) 130 2) (e M) (call (e M) 11) 130 0 (loopAt (e M) 130 2) (sum2 M) :=
  sumOk_st (T := tblOf (t130_0 M)) (n0 := 0) (lv := lv2) (t130_0_ok M) (by kernel_rfl) rfl (by intro ls s h; unfold of2 at h; (repeat' split at h) <;> simp at h; subst h; rfl) (by intro s; kernel_rfl) (by intro s; kernel_rfl) (by intro s nx k; kernel_rfl)
noncomputable def t130_1 (M : Nat) : List Ent := ⟨130, 11, 0, 2, sum2 M⟩ :: t130_0 M
theorem t130_1_ok (M : Nat) : AllOk (e M) (tblOf (t130_1 M)) := (t130_0_ok M).add ⟨130, 11, 0, 2, sum2 M⟩ (by kernel_rfl) (sok2 M)
def s (M : Nat) (p0 : Int) : Option D :=
  (goS (st2 M) M ⟨p0, 2⟩ fun x => match x with | .e0 i1 i2 r3 => (some (db false)) | .e1 i1 i2 => (some (db (gtI i1 1))))
theorem run (M : Nat) (p0 : Int) : callS (e M) (tblOf (t130_1 M)) 12 (.fn 130) [.d (.int .i64) (di p0)] [] (fun v H => finish ty [4] v H) = s M p0 := by kernel_rfl
noncomputable abbrev t (M : Nat) : List Ent := t130_1 M
theorem t_ok (M : Nat) : AllOk (e M) (tblOf (t M)) := t130_1_ok M
def c : Con := { run := fun ds => match ds with | [p0] => s FUEL p0.i | _ => none, fresh := false, plain := true }
theorem fun_at : Tryz.prog.funcs[130]? = some Tryz.f130 := by kernel_rfl
theorem params : Tryz.f130.params.toList.map ty = [(.int .i64)] := by kernel_rfl
theorem results : Tryz.f130.resultTypes.toList = [4] := by kernel_rfl
theorem flat : Tryz.f130.resultTypes.toList.all (fun t => K.flat ty 20 (ty t)) = true := by kernel_rfl
theorem ok : ConOk (130, c) := by
  intro fn hfn
  obtain rfl : Tryz.f130 = fn := Option.some.inj (fun_at.symm.trans hfn)
  refine contract_flat (n := 20) hgl (fun _ => flat) (fun ds r hh0 hr => ?_)
  rw [params] at hh0
  obtain ⟨p0, ds0, rfl, h0, hh1⟩ := hass_cons hh0
  obtain ⟨p0, rfl⟩ := has_int h0
  obtain rfl := hass_nil hh1
  refine ⟨e FUEL, DEPTH, tblOf (t FUEL), envOk allNil allNil, rfl, t_ok FUEL, ?_⟩
  rw [params, results]
  exact (run FUEL p0).trans hr
end F130
namespace F153
def cons : List (Nat × Con) := []
def exts : List (Nat × Ext) := []
def h : List (Nat × Nat × Hint) := []
noncomputable def e (M : Nat) : Env := env cons exts h M
noncomputable def t153_0 (_ : Nat) : List Ent := []
theorem t153_0_ok (M : Nat) : AllOk (e M) (tblOf (t153_0 M)) := AllOk.nil
def s (M : Nat) (p0 : Int) (p1 : Int) : Option D :=
  (some (D.tup [(D.int .u64 (ad .u64 (ad .u64 (ml .u64 (shrI .u64 p0 32) (shrI .u64 p1 32)) (shrI .u64 (ad .u64 (ml .u64 (shrI .u64 p0 32) (andI .u64 p1 4294967295)) (shrI .u64 (ml .u64 (andI .u64 p0 4294967295) (andI .u64 p1 4294967295)) 32)) 32)) (shrI .u64 (ad .u64 (andI .u64 (ad .u64 (ml .u64 (shrI .u64 p0 32) (andI .u64 p1 4294967295)) (shrI .u64 (ml .u64 (andI .u64 p0 4294967295) (andI .u64 p1 4294967295)) 32)) 4294967295) (ml .u64 (andI .u64 p0 4294967295) (shrI .u64 p1 32))) 32))), (D.int .u64 (ml .u64 p0 p1))]))
theorem run (M : Nat) (p0 : Int) (p1 : Int) : callS (e M) (tblOf (t153_0 M)) 12 (.fn 153) [.d (.int .u64) (D.int .u64 p0), .d (.int .u64) (D.int .u64 p1)] [] (fun v H => finish ty [174, 174] v H) = s M p0 p1 := by kernel_rfl
noncomputable abbrev t (M : Nat) : List Ent := t153_0 M
theorem t_ok (M : Nat) : AllOk (e M) (tblOf (t M)) := t153_0_ok M
def c : Con := { run := fun ds => match ds with | [p0, p1] => s FUEL p0.i p1.i | _ => none, fresh := false, plain := true }
theorem fun_at : Tryz.prog.funcs[153]? = some Tryz.f153 := by kernel_rfl
theorem params : Tryz.f153.params.toList.map ty = [(.int .u64), (.int .u64)] := by kernel_rfl
theorem results : Tryz.f153.resultTypes.toList = [174, 174] := by kernel_rfl
theorem flat : Tryz.f153.resultTypes.toList.all (fun t => K.flat ty 20 (ty t)) = true := by kernel_rfl
theorem ok : ConOk (153, c) := by
  intro fn hfn
  obtain rfl : Tryz.f153 = fn := Option.some.inj (fun_at.symm.trans hfn)
  refine contract_flat (n := 20) hgl (fun _ => flat) (fun ds r hh0 hr => ?_)
  rw [params] at hh0
  obtain ⟨p0, ds0, rfl, h0, hh1⟩ := hass_cons hh0
  obtain ⟨p0, rfl⟩ := has_int h0
  obtain ⟨p1, ds1, rfl, h1, hh2⟩ := hass_cons hh1
  obtain ⟨p1, rfl⟩ := has_int h1
  obtain rfl := hass_nil hh2
  refine ⟨e FUEL, DEPTH, tblOf (t FUEL), envOk allNil allNil, rfl, t_ok FUEL, ?_⟩
  rw [params, results]
  exact (run FUEL p0 p1).trans hr
end F153
namespace F145
def cons : List (Nat × Con) := [(153, F153.c)]
def exts : List (Nat × Ext) := []
def h : List (Nat × Nat × Hint) := []
noncomputable def e (M : Nat) : Env := env cons exts h M
noncomputable def t145_0 (_ : Nat) : List Ent := []
theorem t145_0_ok (M : Nat) : AllOk (e M) (tblOf (t145_0 M)) := AllOk.nil
def s (M : Nat) (p0 : Int) (p1 : Int) (p2 : Int) : Option D :=
  (bd (F153.s FUEL p0 p0) fun r1 => (cond (eqI p2 2) (cond (ltI (r1.at 0).i p1) (some (db true)) (cond (eqI (r1.at 0).i p1) (some (db (eqI (r1.at 1).i 0))) (some (db false)))) (bd (F153.s FUEL (r1.at 1).i p0) fun r2 => (bd (F153.s FUEL (r1.at 0).i p0) fun r3 => (cond (Nat.ble 0 1) (cond (ltI (orI .u64 (shlI .u64 (ad .u64 (r3.at 0).i ((((r2.at 0).i.toNat + (r3.at 1).i.toNat + 0) / 18446744073709551616 : Nat) : Int)) 32) (shrI .u64 ((((r2.at 0).i.toNat + (r3.at 1).i.toNat + 0) % 18446744073709551616 : Nat) : Int) 32)) p1) (some (db true)) (cond (eqI (orI .u64 (shlI .u64 (ad .u64 (r3.at 0).i ((((r2.at 0).i.toNat + (r3.at 1).i.toNat + 0) / 18446744073709551616 : Nat) : Int)) 32) (shrI .u64 ((((r2.at 0).i.toNat + (r3.at 1).i.toNat + 0) % 18446744073709551616 : Nat) : Int) 32)) p1) (cond (eqI (cv .u32 ((((r2.at 0).i.toNat + (r3.at 1).i.toNat + 0) % 18446744073709551616 : Nat) : Int)) 0) (some (db (eqI (r2.at 1).i 0))) (some (db false))) (some (db false)))) none)))))
theorem run (M : Nat) (p0 : Int) (p1 : Int) (p2 : Int) : callS (e M) (tblOf (t145_0 M)) 12 (.fn 145) [.d (.int .u64) (D.int .u64 p0), .d (.int .u64) (D.int .u64 p1), .d (.int .i64) (di p2)] [] (fun v H => finish ty [4] v H) = s M p0 p1 p2 := by kernel_rfl
noncomputable abbrev t (M : Nat) : List Ent := t145_0 M
theorem t_ok (M : Nat) : AllOk (e M) (tblOf (t M)) := t145_0_ok M
def c : Con := { run := fun ds => match ds with | [p0, p1, p2] => s FUEL p0.i p1.i p2.i | _ => none, fresh := false, plain := true }
theorem fun_at : Tryz.prog.funcs[145]? = some Tryz.f145 := by kernel_rfl
theorem params : Tryz.f145.params.toList.map ty = [(.int .u64), (.int .u64), (.int .i64)] := by kernel_rfl
theorem results : Tryz.f145.resultTypes.toList = [4] := by kernel_rfl
theorem flat : Tryz.f145.resultTypes.toList.all (fun t => K.flat ty 20 (ty t)) = true := by kernel_rfl
theorem ok : ConOk (145, c) := by
  intro fn hfn
  obtain rfl : Tryz.f145 = fn := Option.some.inj (fun_at.symm.trans hfn)
  refine contract_flat (n := 20) hgl (fun _ => flat) (fun ds r hh0 hr => ?_)
  rw [params] at hh0
  obtain ⟨p0, ds0, rfl, h0, hh1⟩ := hass_cons hh0
  obtain ⟨p0, rfl⟩ := has_int h0
  obtain ⟨p1, ds1, rfl, h1, hh2⟩ := hass_cons hh1
  obtain ⟨p1, rfl⟩ := has_int h1
  obtain ⟨p2, ds2, rfl, h2, hh3⟩ := hass_cons hh2
  obtain ⟨p2, rfl⟩ := has_int h2
  obtain rfl := hass_nil hh3
  refine ⟨e FUEL, DEPTH, tblOf (t FUEL), envOk (allCons F153.ok allNil) allNil, rfl, t_ok FUEL, ?_⟩
  rw [params, results]
  exact (run FUEL p0 p1 p2).trans hr
end F145
namespace F131
def cons : List (Nat × Con) := [(145, F145.c)]
def exts : List (Nat × Ext) := []
def h : List (Nat × Nat × Hint) := [(131, 3, { live := [0, 1, 5, 6], rows := [], own := false, inpl := false })]
noncomputable def e (M : Nat) : Env := env cons exts h M
noncomputable def t131_0 (_ : Nat) : List Ent := []
theorem t131_0_ok (M : Nat) : AllOk (e M) (tblOf (t131_0 M)) := AllOk.nil
structure S3 where
  i1 : Int
  i2 : Int
  i3 : Int
  i4 : Int
inductive X3 where
  | e0 (i1 : Int) (i2 : Int) (i3 : Int) (i4 : Int)
def st3 (M : Nat) : S3 → (S3 → Option D) → (X3 → Option D) → Option D
  | ⟨i1, i2, i3, i4⟩, rec, K => (cond (gtI i4 0) (bd (F145.s FUEL (orI .u64 i3 i4) i1 i2) fun r5 => (cond r5.b (rec ⟨i1, i2, (orI .u64 i3 i4), (shrI .u64 i4 1)⟩) (rec ⟨i1, i2, i3, (shrI .u64 i4 1)⟩))) (K (.e0 i1 i2 i3 i4)))
def lv3 : S3 → List Leaf
  | ⟨i1, i2, i3, i4⟩ => [.i i1, .i i2, .i i3, .i i4]
def of3 : List Leaf → Option S3
  | [.i i1, .i i2, .i i3, .i i4] => some ⟨i1, i2, i3, i4⟩
  | _ => none
def ex3 (k : Kont) : X3 → Option D
  | .e0 i1 i2 i3 i4 => k (.exit 0) ((.d (.int .u64) (D.int .u64 i1)) :: ((.d (.int .i64) (di i2)) :: (us 3 ((.d (.int .u64) (D.int .u64 i3)) :: ((.d (.int .u64) (D.int .u64 i4)) :: ((.d (.int .u64) (D.int .u64 i4)) :: ((.d .bool (db (gtI i4 0))) :: (us 13 [])))))))) []
def ps3 : List PV := ((.d (.int .u64) (.int .u64)) :: ((.d (.int .i64) (.int .i64)) :: (up 3 ((.d (.int .u64) (.int .u64)) :: ((.d (.int .u64) (.int .u64)) :: (up 15 []))))))
def qs3 : List PO := []
noncomputable def sum3 (M : Nat) : Sum := sumS [0, 1, 5, 6] ps3 qs3 [] of3 (st3 M) ex3 M
theorem sok3 (M : Nat) : SumOk (loopRd (e M) 131 3) (e M) (call (e M) 11) 131 0 (loopAt (e M) 131 3) (sum3 M) :=
  sumOk_st (T := tblOf (t131_0 M)) (n0 := 0) (lv := lv3) (t131_0_ok M) (by kernel_rfl) rfl (by intro ls s h; unfold of3 at h; (repeat' split at h) <;> simp at h; subst h; rfl) (by intro s; kernel_rfl) (by intro s; kernel_rfl) (by intro s nx k; kernel_rfl)
noncomputable def t131_1 (M : Nat) : List Ent := ⟨131, 11, 0, 3, sum3 M⟩ :: t131_0 M
theorem t131_1_ok (M : Nat) : AllOk (e M) (tblOf (t131_1 M)) := (t131_0_ok M).add ⟨131, 11, 0, 3, sum3 M⟩ (by kernel_rfl) (sok3 M)
def s (M : Nat) (p0 : Int) (p1 : Int) : Option D :=
  (goS (st3 M) M ⟨p0, p1, 0, 137438953472⟩ fun x => match x with | .e0 i1 i2 i3 i4 => (some (D.int .u32 (cv .u32 i3))))
theorem run (M : Nat) (p0 : Int) (p1 : Int) : callS (e M) (tblOf (t131_1 M)) 12 (.fn 131) [.d (.int .u64) (D.int .u64 p0), .d (.int .i64) (di p1)] [] (fun v H => finish ty [139] v H) = s M p0 p1 := by kernel_rfl
noncomputable abbrev t (M : Nat) : List Ent := t131_1 M
theorem t_ok (M : Nat) : AllOk (e M) (tblOf (t M)) := t131_1_ok M
def c : Con := { run := fun ds => match ds with | [p0, p1] => s FUEL p0.i p1.i | _ => none, fresh := false, plain := true }
theorem fun_at : Tryz.prog.funcs[131]? = some Tryz.f131 := by kernel_rfl
theorem params : Tryz.f131.params.toList.map ty = [(.int .u64), (.int .i64)] := by kernel_rfl
theorem results : Tryz.f131.resultTypes.toList = [139] := by kernel_rfl
theorem flat : Tryz.f131.resultTypes.toList.all (fun t => K.flat ty 20 (ty t)) = true := by kernel_rfl
theorem ok : ConOk (131, c) := by
  intro fn hfn
  obtain rfl : Tryz.f131 = fn := Option.some.inj (fun_at.symm.trans hfn)
  refine contract_flat (n := 20) hgl (fun _ => flat) (fun ds r hh0 hr => ?_)
  rw [params] at hh0
  obtain ⟨p0, ds0, rfl, h0, hh1⟩ := hass_cons hh0
  obtain ⟨p0, rfl⟩ := has_int h0
  obtain ⟨p1, ds1, rfl, h1, hh2⟩ := hass_cons hh1
  obtain ⟨p1, rfl⟩ := has_int h1
  obtain rfl := hass_nil hh2
  refine ⟨e FUEL, DEPTH, tblOf (t FUEL), envOk (allCons F145.ok allNil) allNil, rfl, t_ok FUEL, ?_⟩
  rw [params, results]
  exact (run FUEL p0 p1).trans hr
end F131
namespace F87
def cons : List (Nat × Con) := [(130, F130.c), (131, F131.c)]
def exts : List (Nat × Ext) := []
def h : List (Nat × Nat × Hint) := [(87, 3, { live := [0, 1, 2, 3], rows := [], own := false, inpl := false })]
noncomputable def e (M : Nat) : Env := env cons exts h M
noncomputable def t87_0 (_ : Nat) : List Ent := []
theorem t87_0_ok (M : Nat) : AllOk (e M) (tblOf (t87_0 M)) := AllOk.nil
structure S3 where
  i15 : Int
  i16 : Int
  d17 : D
  d18 : D
inductive X3 where
  | e0 (i15 : Int) (i16 : Int) (d17 : D) (d18 : D)
def st3 (M : Nat) : S3 → (S3 → Option D) → (X3 → Option D) → Option D
  | ⟨i15, i16, d17, d18⟩, rec, K => (cond (ltI i15 64) (bd (F130.s FUEL i16) fun r19 => (cond (!r19.b) (rec ⟨i15, (ad .i64 i16 1), d17, d18⟩) (bd (F131.s FUEL (cv .u64 i16) 3) fun r20 => (cond (inb i15 64) (cond (ltI i15 8) (bd (F131.s FUEL (cv .u64 i16) 2) fun r21 => (cond (inb i15 8) (rec ⟨(ad .i64 i15 1), (ad .i64 i16 1), (D.agg (d17.parts.set i15.toNat r21)), (D.agg (d18.parts.set i15.toNat r20))⟩) none)) (rec ⟨(ad .i64 i15 1), (ad .i64 i16 1), d17, (D.agg (d18.parts.set i15.toNat r20))⟩)) none)))) (K (.e0 i15 i16 d17 d18)))
def lv3 : S3 → List Leaf
  | ⟨i15, i16, d17, d18⟩ => [.i i15, .i i16, .d d17, .d d18]
def of3 : List Leaf → Option S3
  | [.i i15, .i i16, .d d17, .d d18] => some ⟨i15, i16, d17, d18⟩
  | _ => none
def ex3 (k : Kont) : X3 → Option D
  | .e0 i15 i16 d17 d18 => k (.exit 0) ((.ptr 0 [] (.array 8 139)) :: ((.ptr 1 [] (.array 64 139)) :: ((.d (.int .i64) (di i15)) :: ((.d (.int .i64) (di i16)) :: ((.d (.int .i64) (di i15)) :: ((.d .bool (db (ltI i15 64))) :: (us 21 []))))))) [(.var (.array 8 139) (.d (.array 8 139) d17)), (.var (.array 64 139) (.d (.array 64 139) d18))]
def ps3 : List PV := ((.ptr 0 [] (.array 8 139)) :: ((.ptr 1 [] (.array 64 139)) :: ((.d (.int .i64) (.int .i64)) :: ((.d (.int .i64) (.int .i64)) :: (up 23 [])))))
def qs3 : List PO := [(.var (.array 8 139) (.d (.array 8 139) .x)), (.var (.array 64 139) (.d (.array 64 139) .x))]
noncomputable def sum3 (M : Nat) : Sum := sumS [0, 1, 2, 3] ps3 qs3 [] of3 (st3 M) ex3 M
theorem sok3 (M : Nat) : SumOk (loopRd (e M) 87 3) (e M) (call (e M) 11) 87 0 (loopAt (e M) 87 3) (sum3 M) :=
  sumOk_st (T := tblOf (t87_0 M)) (n0 := 2) (lv := lv3) (t87_0_ok M) (by kernel_rfl) rfl (by intro ls s h; unfold of3 at h; (repeat' split at h) <;> simp at h; subst h; rfl) (by intro s; kernel_rfl) (by intro s; kernel_rfl) (by intro s nx k; kernel_rfl)
noncomputable def t87_1 (M : Nat) : List Ent := ⟨87, 11, 0, 3, sum3 M⟩ :: t87_0 M
theorem t87_1_ok (M : Nat) : AllOk (e M) (tblOf (t87_1 M)) := (t87_0_ok M).add ⟨87, 11, 0, 3, sum3 M⟩ (by kernel_rfl) (sok3 M)
def s (M : Nat)  : Option D :=
  (goS (st3 M) M ⟨0, 2, (da (rp 8 (D.int .u32 0))), (da (rp 64 (D.int .u32 0)))⟩ fun x => match x with | .e0 i15 i16 d17 d18 => (some (D.tup [d17, d18])))
theorem run (M : Nat)  : callS (e M) (tblOf (t87_1 M)) 12 (.fn 87) [] [] (fun v H => finish ty [140, 141] v H) = s M  := by kernel_rfl
noncomputable abbrev t (M : Nat) : List Ent := t87_1 M
theorem t_ok (M : Nat) : AllOk (e M) (tblOf (t M)) := t87_1_ok M
def c : Con := { run := fun ds => match ds with | [] => s FUEL  | _ => none, fresh := false, plain := true }
theorem fun_at : Tryz.prog.funcs[87]? = some Tryz.f87 := by kernel_rfl
theorem params : Tryz.f87.params.toList.map ty = [] := by kernel_rfl
theorem results : Tryz.f87.resultTypes.toList = [140, 141] := by kernel_rfl
theorem flat : Tryz.f87.resultTypes.toList.all (fun t => K.flat ty 20 (ty t)) = true := by kernel_rfl
theorem ok : ConOk (87, c) := by
  intro fn hfn
  obtain rfl : Tryz.f87 = fn := Option.some.inj (fun_at.symm.trans hfn)
  refine contract_flat (n := 20) hgl (fun _ => flat) (fun ds r hh0 hr => ?_)
  rw [params] at hh0
  obtain rfl := hass_nil hh0
  refine ⟨e FUEL, DEPTH, tblOf (t FUEL), envOk (allCons F130.ok (allCons F131.ok allNil)) allNil, rfl, t_ok FUEL, ?_⟩
  rw [params, results]
  exact (run FUEL ).trans hr
end F87
namespace F88
def cons : List (Nat × Con) := []
def exts : List (Nat × Ext) := []
def h : List (Nat × Nat × Hint) := [(88, 2, { live := [0, 3], rows := [(3, 5)], own := false, inpl := false }), (88, 6, { live := [3, 4, 5], rows := [(3, 5)], own := false, inpl := false })]
noncomputable def e (M : Nat) : Env := env cons exts h M
noncomputable def t88_0 (_ : Nat) : List Ent := []
theorem t88_0_ok (M : Nat) : AllOk (e M) (tblOf (t88_0 M)) := AllOk.nil
structure S2 where
  s1 : ByteArray
  n2 : Nat
  n3 : Nat
  b4 : Bool
  l5 : (List D)
inductive X2 where
  | e0 (s1 : ByteArray) (n2 : Nat) (n3 : Nat) (b4 : Bool) (l5 : (List D))
def st2 (M : Nat) : S2 → (S2 → Option D) → (X2 → Option D) → Option D
  | ⟨s1, n2, n3, b4, l5⟩, rec, K => (cond (neI (remI (nI n3) 64) 56) (cond (mx (n3 + 1)) (rec ⟨s1, 0, (n3 + 1), (b4 || true), (ap ((l5.drop n2).take n3) [(D.int .u8 0)])⟩) none) (K (.e0 s1 n2 n3 b4 l5)))
def lv2 : S2 → List Leaf
  | ⟨s1, n2, n3, b4, l5⟩ => [.s s1, .n n2, .n n3, .b b4, .l l5]
def of2 : List Leaf → Option S2
  | [.s s1, .n n2, .n n3, .b b4, .l l5] => some ⟨s1, n2, n3, b4, l5⟩
  | _ => none
def ex2 (k : Kont) : X2 → Option D
  | .e0 s1 n2 n3 b4 l5 => k (.exit 0) ((.d .str (dS s1)) :: (us 2 ((.sref 1 n2 n3) :: (us 6 ((.sref 1 n2 n3) :: ((.d (.int .i64) (di (nI n3))) :: ((.d (.int .i64) (di (remI (nI n3) 64))) :: ((.d .bool (db (neI (remI (nI n3) 64) 56))) :: (us 21 []))))))))) [.dead, (.row 5 true b4 l5)]
def ps2 : List PV := ((.d .str .str) :: (up 2 ((.sref 1) :: (up 31 []))))
def qs2 : List PO := [.dead, (.row 5 true)]
noncomputable def sum2 (M : Nat) : Sum := sumS [0, 3] ps2 qs2 [(3, 1)] of2 (st2 M) ex2 M
theorem sok2 (M : Nat) : SumOk (loopRd (e M) 88 2) (e M) (call (e M) 11) 88 0 (loopAt (e M) 88 2) (sum2 M) :=
  sumOk_st (T := tblOf (t88_0 M)) (n0 := 2) (lv := lv2) (t88_0_ok M) (by kernel_rfl) rfl (by intro ls s h; unfold of2 at h; (repeat' split at h) <;> simp at h; subst h; rfl) (by intro s; kernel_rfl) (by intro s; kernel_rfl) (by intro s nx k; kernel_rfl)
noncomputable def t88_1 (M : Nat) : List Ent := ⟨88, 11, 0, 2, sum2 M⟩ :: t88_0 M
theorem t88_1_ok (M : Nat) : AllOk (e M) (tblOf (t88_1 M)) := (t88_0_ok M).add ⟨88, 11, 0, 2, sum2 M⟩ (by kernel_rfl) (sok2 M)
structure S6 where
  n6 : Nat
  n7 : Nat
  i8 : Int
  i9 : Int
  b10 : Bool
  l11 : (List D)
inductive X6 where
  | e0 (n6 : Nat) (n7 : Nat) (i8 : Int) (i9 : Int) (b10 : Bool) (l11 : (List D))
def st6 (M : Nat) : S6 → (S6 → Option D) → (X6 → Option D) → Option D
  | ⟨n6, n7, i8, i9, b10, l11⟩, rec, K => (cond (geI i9 0) (bd (if (ml .i64 8 i9) < 0 then none else some (.int .u64 (shrI .u64 i8 (ml .i64 8 i9).toNat))) fun r12 => (cond (mx (n7 + 1)) (rec ⟨0, (n7 + 1), i8, (sb .i64 i9 1), (b10 || true), (ap ((l11.drop n6).take n7) [(D.int .u8 (cv .u8 r12.i))])⟩) none)) (K (.e0 n6 n7 i8 i9 b10 l11)))
def lv6 : S6 → List Leaf
  | ⟨n6, n7, i8, i9, b10, l11⟩ => [.n n6, .n n7, .i i8, .i i9, .b b10, .l l11]
def of6 : List Leaf → Option S6
  | [.n n6, .n n7, .i i8, .i i9, .b b10, .l l11] => some ⟨n6, n7, i8, i9, b10, l11⟩
  | _ => none
def ex6 (k : Kont) : X6 → Option D
  | .e0 n6 n7 i8 i9 b10 l11 => k (.exit 2) (us 3 ((.sref 1 n6 n7) :: ((.d (.int .u64) (D.int .u64 i8)) :: ((.d (.int .i64) (di i9)) :: (us 15 ((.d (.int .i64) (di i9)) :: ((.d .bool (db (geI i9 0))) :: (us 12 [])))))))) [.dead, (.row 5 true b10 l11)]
def ps6 : List PV := (up 3 ((.sref 1) :: ((.d (.int .u64) (.int .u64)) :: ((.d (.int .i64) (.int .i64)) :: (up 29 [])))))
def qs6 : List PO := [.dead, (.row 5 true)]
noncomputable def sum6 (M : Nat) : Sum := sumS [3, 4, 5] ps6 qs6 [(3, 1)] of6 (st6 M) ex6 M
theorem sok6 (M : Nat) : SumOk (loopRd (e M) 88 6) (e M) (call (e M) 11) 88 0 (loopAt (e M) 88 6) (sum6 M) :=
  sumOk_st (T := tblOf (t88_1 M)) (n0 := 2) (lv := lv6) (t88_1_ok M) (by kernel_rfl) rfl (by intro ls s h; unfold of6 at h; (repeat' split at h) <;> simp at h; subst h; rfl) (by intro s; kernel_rfl) (by intro s; kernel_rfl) (by intro s nx k; kernel_rfl)
noncomputable def t88_2 (M : Nat) : List Ent := ⟨88, 11, 0, 6, sum6 M⟩ :: t88_1 M
theorem t88_2_ok (M : Nat) : AllOk (e M) (tblOf (t88_2 M)) := (t88_1_ok M).add ⟨88, 11, 0, 6, sum6 M⟩ (by kernel_rfl) (sok6 M)
def s (M : Nat) (p0 : ByteArray) : Option D :=
  (cond (mx p0.size) (cond (mx (p0.size + 1)) (goS (st2 M) M ⟨p0, 0, (p0.size + 1), true, (ap (((bytesOf p0).drop 0).take p0.size) [(D.int .u8 128)])⟩ fun x => match x with | .e0 s1 n2 n3 b4 l5 => (goS (st6 M) M ⟨n2, n3, (shlI .u64 (cv .u64 (nI s1.size)) 3), 7, b4, l5⟩ fun x => match x with | .e0 n6 n7 i8 i9 b10 l11 => (some (dS (ofBytes ((l11.drop n6).take n7)))))) none) none)
theorem run (M : Nat) (p0 : ByteArray) : callS (e M) (tblOf (t88_2 M)) 12 (.fn 88) [.d .str (dS p0)] [] (fun v H => finish ty [9] v H) = s M p0 := by kernel_rfl
noncomputable abbrev t (M : Nat) : List Ent := t88_2 M
theorem t_ok (M : Nat) : AllOk (e M) (tblOf (t M)) := t88_2_ok M
def c : Con := { run := fun ds => match ds with | [p0] => s FUEL p0.s | _ => none, fresh := false, plain := true }
theorem fun_at : Tryz.prog.funcs[88]? = some Tryz.f88 := by kernel_rfl
theorem params : Tryz.f88.params.toList.map ty = [.str] := by kernel_rfl
theorem results : Tryz.f88.resultTypes.toList = [9] := by kernel_rfl
theorem flat : Tryz.f88.resultTypes.toList.all (fun t => K.flat ty 20 (ty t)) = true := by kernel_rfl
theorem ok : ConOk (88, c) := by
  intro fn hfn
  obtain rfl : Tryz.f88 = fn := Option.some.inj (fun_at.symm.trans hfn)
  refine contract_flat (n := 20) hgl (fun _ => flat) (fun ds r hh0 hr => ?_)
  rw [params] at hh0
  obtain ⟨p0, ds0, rfl, h0, hh1⟩ := hass_cons hh0
  obtain ⟨p0, rfl⟩ := has_str h0
  obtain rfl := hass_nil hh1
  refine ⟨e FUEL, DEPTH, tblOf (t FUEL), envOk allNil allNil, rfl, t_ok FUEL, ?_⟩
  rw [params, results]
  exact (run FUEL p0).trans hr
end F88
namespace F146
def cons : List (Nat × Con) := []
def exts : List (Nat × Ext) := []
def h : List (Nat × Nat × Hint) := []
noncomputable def e (M : Nat) : Env := env cons exts h M
noncomputable def t146_0 (_ : Nat) : List Ent := []
theorem t146_0_ok (M : Nat) : AllOk (e M) (tblOf (t146_0 M)) := AllOk.nil
def s (M : Nat) (p0 : Int) (p1 : Int) : Option D :=
  (bd (if (andI .u64 (cv .u64 p1) 31) < 0 then none else some (.int .u32 (shlI .u32 p0 (andI .u64 (cv .u64 p1) 31).toNat))) fun r1 => (bd (if (sb .u64 32 (andI .u64 (cv .u64 p1) 31)) < 0 then none else some (.int .u32 (shrI .u32 p0 (sb .u64 32 (andI .u64 (cv .u64 p1) 31)).toNat))) fun r2 => (some (D.int .u32 (orI .u32 r1.i r2.i)))))
theorem run (M : Nat) (p0 : Int) (p1 : Int) : callS (e M) (tblOf (t146_0 M)) 12 (.fn 146) [.d (.int .u32) (D.int .u32 p0), .d (.int .i64) (di p1)] [] (fun v H => finish ty [139] v H) = s M p0 p1 := by kernel_rfl
noncomputable abbrev t (M : Nat) : List Ent := t146_0 M
theorem t_ok (M : Nat) : AllOk (e M) (tblOf (t M)) := t146_0_ok M
def c : Con := { run := fun ds => match ds with | [p0, p1] => s FUEL p0.i p1.i | _ => none, fresh := false, plain := true }
theorem fun_at : Tryz.prog.funcs[146]? = some Tryz.f146 := by kernel_rfl
theorem params : Tryz.f146.params.toList.map ty = [(.int .u32), (.int .i64)] := by kernel_rfl
theorem results : Tryz.f146.resultTypes.toList = [139] := by kernel_rfl
theorem flat : Tryz.f146.resultTypes.toList.all (fun t => K.flat ty 20 (ty t)) = true := by kernel_rfl
theorem ok : ConOk (146, c) := by
  intro fn hfn
  obtain rfl : Tryz.f146 = fn := Option.some.inj (fun_at.symm.trans hfn)
  refine contract_flat (n := 20) hgl (fun _ => flat) (fun ds r hh0 hr => ?_)
  rw [params] at hh0
  obtain ⟨p0, ds0, rfl, h0, hh1⟩ := hass_cons hh0
  obtain ⟨p0, rfl⟩ := has_int h0
  obtain ⟨p1, ds1, rfl, h1, hh2⟩ := hass_cons hh1
  obtain ⟨p1, rfl⟩ := has_int h1
  obtain rfl := hass_nil hh2
  refine ⟨e FUEL, DEPTH, tblOf (t FUEL), envOk allNil allNil, rfl, t_ok FUEL, ?_⟩
  rw [params, results]
  exact (run FUEL p0 p1).trans hr
end F146
namespace F133
def cons : List (Nat × Con) := [(146, F146.c)]
def exts : List (Nat × Ext) := []
def h : List (Nat × Nat × Hint) := []
noncomputable def e (M : Nat) : Env := env cons exts h M
noncomputable def t133_0 (_ : Nat) : List Ent := []
theorem t133_0_ok (M : Nat) : AllOk (e M) (tblOf (t133_0 M)) := AllOk.nil
def s (M : Nat) (p0 : Int) (p1 : Int) : Option D :=
  (bd (F146.s FUEL p0 (sb .i64 0 p1)) fun r1 => (some r1))
theorem run (M : Nat) (p0 : Int) (p1 : Int) : callS (e M) (tblOf (t133_0 M)) 12 (.fn 133) [.d (.int .u32) (D.int .u32 p0), .d (.int .i64) (di p1)] [] (fun v H => finish ty [139] v H) = s M p0 p1 := by kernel_rfl
noncomputable abbrev t (M : Nat) : List Ent := t133_0 M
theorem t_ok (M : Nat) : AllOk (e M) (tblOf (t M)) := t133_0_ok M
def c : Con := { run := fun ds => match ds with | [p0, p1] => s FUEL p0.i p1.i | _ => none, fresh := false, plain := true }
theorem fun_at : Tryz.prog.funcs[133]? = some Tryz.f133 := by kernel_rfl
theorem params : Tryz.f133.params.toList.map ty = [(.int .u32), (.int .i64)] := by kernel_rfl
theorem results : Tryz.f133.resultTypes.toList = [139] := by kernel_rfl
theorem flat : Tryz.f133.resultTypes.toList.all (fun t => K.flat ty 20 (ty t)) = true := by kernel_rfl
theorem ok : ConOk (133, c) := by
  intro fn hfn
  obtain rfl : Tryz.f133 = fn := Option.some.inj (fun_at.symm.trans hfn)
  refine contract_flat (n := 20) hgl (fun _ => flat) (fun ds r hh0 hr => ?_)
  rw [params] at hh0
  obtain ⟨p0, ds0, rfl, h0, hh1⟩ := hass_cons hh0
  obtain ⟨p0, rfl⟩ := has_int h0
  obtain ⟨p1, ds1, rfl, h1, hh2⟩ := hass_cons hh1
  obtain ⟨p1, rfl⟩ := has_int h1
  obtain rfl := hass_nil hh2
  refine ⟨e FUEL, DEPTH, tblOf (t FUEL), envOk (allCons F146.ok allNil) allNil, rfl, t_ok FUEL, ?_⟩
  rw [params, results]
  exact (run FUEL p0 p1).trans hr
end F133
namespace F132
def cons : List (Nat × Con) := [(133, F133.c)]
def exts : List (Nat × Ext) := []
def h : List (Nat × Nat × Hint) := [(132, 3, { live := [0, 2, 3, 7], rows := [], own := false, inpl := false })]
noncomputable def e (M : Nat) : Env := env cons exts h M
noncomputable def t132_0 (_ : Nat) : List Ent := []
theorem t132_0_ok (M : Nat) : AllOk (e M) (tblOf (t132_0 M)) := AllOk.nil
structure S3 where
  s1 : ByteArray
  i2 : Int
  d3 : D
  d4 : D
inductive X3 where
  | e0 (s1 : ByteArray) (i2 : Int) (d3 : D) (d4 : D)
def st3 (M : Nat) : S3 → (S3 → Option D) → (X3 → Option D) → Option D
  | ⟨s1, i2, d3, d4⟩, rec, K => (cond (ltI i2 64) (cond (ltI i2 16) (cond (inb (ml .i64 4 i2) s1.size) (cond (inb (ad .i64 (ml .i64 4 i2) 1) s1.size) (cond (inb (ad .i64 (ml .i64 4 i2) 2) s1.size) (cond (inb (ad .i64 (ml .i64 4 i2) 3) s1.size) (cond (inb i2 64) (rec ⟨s1, (ad .i64 i2 1), d3, (D.agg (d4.parts.set i2.toNat (D.int .u32 (orI .u32 (orI .u32 (orI .u32 (shlI .u32 (cv .u32 (byteAt s1 (ml .i64 4 i2).toNat)) 24) (shlI .u32 (cv .u32 (byteAt s1 (ad .i64 (ml .i64 4 i2) 1).toNat)) 16)) (shlI .u32 (cv .u32 (byteAt s1 (ad .i64 (ml .i64 4 i2) 2).toNat)) 8)) (cv .u32 (byteAt s1 (ad .i64 (ml .i64 4 i2) 3).toNat))))))⟩) none) none) none) none) none) (cond (inb (sb .i64 i2 15) 64) (cond (inb (sb .i64 i2 2) 64) (cond (inb (sb .i64 i2 16) 64) (bd (F133.s FUEL (d4.at (sb .i64 i2 15).toNat).i 7) fun r5 => (bd (F133.s FUEL (d4.at (sb .i64 i2 15).toNat).i 18) fun r6 => (cond (inb (sb .i64 i2 7) 64) (bd (F133.s FUEL (d4.at (sb .i64 i2 2).toNat).i 17) fun r7 => (bd (F133.s FUEL (d4.at (sb .i64 i2 2).toNat).i 19) fun r8 => (cond (inb i2 64) (rec ⟨s1, (ad .i64 i2 1), d3, (D.agg (d4.parts.set i2.toNat (D.int .u32 (ad .u32 (ad .u32 (ad .u32 (d4.at (sb .i64 i2 16).toNat).i (xorI .u32 (xorI .u32 r5.i r6.i) (shrI .u32 (d4.at (sb .i64 i2 15).toNat).i 3))) (d4.at (sb .i64 i2 7).toNat).i) (xorI .u32 (xorI .u32 r7.i r8.i) (shrI .u32 (d4.at (sb .i64 i2 2).toNat).i 10))))))⟩) none))) none))) none) none) none)) (K (.e0 s1 i2 d3 d4)))
def lv3 : S3 → List Leaf
  | ⟨s1, i2, d3, d4⟩ => [.s s1, .i i2, .d d3, .d d4]
def of3 : List Leaf → Option S3
  | [.s s1, .i i2, .d d3, .d d4] => some ⟨s1, i2, d3, d4⟩
  | _ => none
def ex3 (k : Kont) : X3 → Option D
  | .e0 s1 i2 d3 d4 => k (.exit 0) ((.d .str (dS s1)) :: (us 1 ((.ptr 0 [] (.array 64 139)) :: ((.ptr 1 [] (.array 64 139)) :: (us 3 ((.d (.int .i64) (di i2)) :: ((.d .bool (db (ltI i2 64))) :: (us 73 [])))))))) [(.var (.array 64 139) (.d (.array 64 139) d3)), (.var (.array 64 139) (.d (.array 64 139) d4))]
def ps3 : List PV := ((.d .str .str) :: (up 1 ((.ptr 0 [] (.array 64 139)) :: ((.ptr 1 [] (.array 64 139)) :: (up 3 ((.d (.int .i64) (.int .i64)) :: (up 74 [])))))))
def qs3 : List PO := [(.var (.array 64 139) (.d (.array 64 139) .x)), (.var (.array 64 139) (.d (.array 64 139) .x))]
noncomputable def sum3 (M : Nat) : Sum := sumS [0, 2, 3, 7] ps3 qs3 [] of3 (st3 M) ex3 M
theorem sok3 (M : Nat) : SumOk (loopRd (e M) 132 3) (e M) (call (e M) 11) 132 0 (loopAt (e M) 132 3) (sum3 M) :=
  sumOk_st (T := tblOf (t132_0 M)) (n0 := 2) (lv := lv3) (t132_0_ok M) (by kernel_rfl) rfl (by intro ls s h; unfold of3 at h; (repeat' split at h) <;> simp at h; subst h; rfl) (by intro s; kernel_rfl) (by intro s; kernel_rfl) (by intro s nx k; kernel_rfl)
noncomputable def t132_1 (M : Nat) : List Ent := ⟨132, 11, 0, 3, sum3 M⟩ :: t132_0 M
theorem t132_1_ok (M : Nat) : AllOk (e M) (tblOf (t132_1 M)) := (t132_0_ok M).add ⟨132, 11, 0, 3, sum3 M⟩ (by kernel_rfl) (sok3 M)
def s (M : Nat) (p0 : ByteArray) : Option D :=
  (goS (st3 M) M ⟨p0, 0, (da (rp 64 (D.int .u32 0))), (da (rp 64 (D.int .u32 0)))⟩ fun x => match x with | .e0 s1 i2 d3 d4 => (some d4))
theorem run (M : Nat) (p0 : ByteArray) : callS (e M) (tblOf (t132_1 M)) 12 (.fn 132) [.d .str (dS p0)] [] (fun v H => finish ty [141] v H) = s M p0 := by kernel_rfl
noncomputable abbrev t (M : Nat) : List Ent := t132_1 M
theorem t_ok (M : Nat) : AllOk (e M) (tblOf (t M)) := t132_1_ok M
def c : Con := { run := fun ds => match ds with | [p0] => s FUEL p0.s | _ => none, fresh := false, plain := true }
theorem fun_at : Tryz.prog.funcs[132]? = some Tryz.f132 := by kernel_rfl
theorem params : Tryz.f132.params.toList.map ty = [.str] := by kernel_rfl
theorem results : Tryz.f132.resultTypes.toList = [141] := by kernel_rfl
theorem flat : Tryz.f132.resultTypes.toList.all (fun t => K.flat ty 20 (ty t)) = true := by kernel_rfl
theorem ok : ConOk (132, c) := by
  intro fn hfn
  obtain rfl : Tryz.f132 = fn := Option.some.inj (fun_at.symm.trans hfn)
  refine contract_flat (n := 20) hgl (fun _ => flat) (fun ds r hh0 hr => ?_)
  rw [params] at hh0
  obtain ⟨p0, ds0, rfl, h0, hh1⟩ := hass_cons hh0
  obtain ⟨p0, rfl⟩ := has_str h0
  obtain rfl := hass_nil hh1
  refine ⟨e FUEL, DEPTH, tblOf (t FUEL), envOk (allCons F133.ok allNil) allNil, rfl, t_ok FUEL, ?_⟩
  rw [params, results]
  exact (run FUEL p0).trans hr
end F132
namespace F89
def cons : List (Nat × Con) := [(132, F132.c), (133, F133.c)]
def exts : List (Nat × Ext) := []
def h : List (Nat × Nat × Hint) := [(89, 1, { live := [], rows := [], own := true, inpl := false }), (89, 3, { live := [3, 4, 6, 7, 17, 18], rows := [], own := false, inpl := false }), (89, 13, { live := [3, 6, 7, 91], rows := [], own := false, inpl := false })]
noncomputable def e (M : Nat) : Env := env cons exts h M
noncomputable def t89_0 (_ : Nat) : List Ent := []
theorem t89_0_ok (M : Nat) : AllOk (e M) (tblOf (t89_0 M)) := AllOk.nil
structure S3 where
  d2 : D
  i3 : Int
  d4 : D
  d5 : D
  i6 : Int
  i7 : Int
  i8 : Int
  i9 : Int
  i10 : Int
  i11 : Int
  i12 : Int
  i13 : Int
  b14 : Bool
  l15 : (List D)
inductive X3 where
  | e0 (d2 : D) (i3 : Int) (d4 : D) (d5 : D) (i6 : Int) (i7 : Int) (i8 : Int) (i9 : Int) (i10 : Int) (i11 : Int) (i12 : Int) (i13 : Int) (b14 : Bool) (l15 : (List D))
def st3 (M : Nat) : S3 → (S3 → Option D) → (X3 → Option D) → Option D
  | ⟨d2, i3, d4, d5, i6, i7, i8, i9, i10, i11, i12, i13, b14, l15⟩, rec, K => (cond (ltI i3 64) (cond (inb i3 64) (bd (F133.s FUEL (ix l15 4).i 6) fun r16 => (bd (F133.s FUEL (ix l15 4).i 11) fun r17 => (bd (F133.s FUEL (ix l15 4).i 25) fun r18 => (cond (inb i3 64) (bd (F133.s FUEL (ix l15 0).i 2) fun r19 => (bd (F133.s FUEL (ix l15 0).i 13) fun r20 => (bd (F133.s FUEL (ix l15 0).i 22) fun r21 => (cond (true && true && true && (Nat.beq l15.length 8)) (cond (true && true && true && (Nat.beq l15.length 8)) (rec ⟨d2, (ad .i64 i3 1), d4, d5, i6, i7, i8, i9, i10, i11, i12, i13, b14, (((ap (ap (l15.take 1) (((l15.drop 0).take 7).take (min ((l15.drop 0).take 7).length 7))) (l15.drop (1 + (min ((l15.drop 0).take 7).length 7)))).set 0 (D.int .u32 (ad .u32 (ad .u32 (ad .u32 (ad .u32 (ad .u32 (ix l15 7).i (xorI .u32 (xorI .u32 r16.i r17.i) r18.i)) (xorI .u32 (andI .u32 (ix l15 4).i (ix l15 5).i) (andI .u32 (notI .u32 (ix l15 4).i) (ix l15 6).i))) (d5.at i3.toNat).i) (d2.at i3.toNat).i) (ad .u32 (xorI .u32 (xorI .u32 r19.i r20.i) r21.i) (xorI .u32 (xorI .u32 (andI .u32 (ix l15 0).i (ix l15 1).i) (andI .u32 (ix l15 0).i (ix l15 2).i)) (andI .u32 (ix l15 1).i (ix l15 2).i)))))).set 4 (D.int .u32 (ad .u32 (ix ((ap (ap (l15.take 1) (((l15.drop 0).take 7).take (min ((l15.drop 0).take 7).length 7))) (l15.drop (1 + (min ((l15.drop 0).take 7).length 7)))).set 0 (D.int .u32 (ad .u32 (ad .u32 (ad .u32 (ad .u32 (ad .u32 (ix l15 7).i (xorI .u32 (xorI .u32 r16.i r17.i) r18.i)) (xorI .u32 (andI .u32 (ix l15 4).i (ix l15 5).i) (andI .u32 (notI .u32 (ix l15 4).i) (ix l15 6).i))) (d5.at i3.toNat).i) (d2.at i3.toNat).i) (ad .u32 (xorI .u32 (xorI .u32 r19.i r20.i) r21.i) (xorI .u32 (xorI .u32 (andI .u32 (ix l15 0).i (ix l15 1).i) (andI .u32 (ix l15 0).i (ix l15 2).i)) (andI .u32 (ix l15 1).i (ix l15 2).i)))))) 4).i (ad .u32 (ad .u32 (ad .u32 (ad .u32 (ix l15 7).i (xorI .u32 (xorI .u32 r16.i r17.i) r18.i)) (xorI .u32 (andI .u32 (ix l15 4).i (ix l15 5).i) (andI .u32 (notI .u32 (ix l15 4).i) (ix l15 6).i))) (d5.at i3.toNat).i) (d2.at i3.toNat).i))))⟩) none) none)))) none)))) none) (K (.e0 d2 i3 d4 d5 i6 i7 i8 i9 i10 i11 i12 i13 b14 l15)))
def lv3 : S3 → List Leaf
  | ⟨d2, i3, d4, d5, i6, i7, i8, i9, i10, i11, i12, i13, b14, l15⟩ => [.d d2, .i i3, .d d4, .d d5, .i i6, .i i7, .i i8, .i i9, .i i10, .i i11, .i i12, .i i13, .b b14, .l l15]
def of3 : List Leaf → Option S3
  | [.d d2, .i i3, .d d4, .d d5, .i i6, .i i7, .i i8, .i i9, .i i10, .i i11, .i i12, .i i13, .b b14, .l l15] => some ⟨d2, i3, d4, d5, i6, i7, i8, i9, i10, i11, i12, i13, b14, l15⟩
  | _ => none
def ex3 (k : Kont) : X3 → Option D
  | .e0 d2 i3 d4 d5 i6 i7 i8 i9 i10 i11 i12 i13 b14 l15 => k (.exit 0) (us 3 ((.ptr 0 [] (.array 8 139)) :: ((.ptr 1 [] (.array 64 139)) :: (us 1 ((.ptr 2 [] (.array 8 139)) :: ((.ptr 3 [] (.array 8 139)) :: (us 9 ((.d (.array 64 139) d2) :: ((.d (.int .i64) (di i3)) :: ((.d .bool (db (ltI i3 64))) :: (us 84 []))))))))))) [(.var (.array 8 139) (.d (.array 8 139) d4)), (.var (.array 64 139) (.d (.array 64 139) d5)), (.var (.array 8 139) (.d (.array 8 139) (da [(D.int .u32 i6), (D.int .u32 i7), (D.int .u32 i8), (D.int .u32 i9), (D.int .u32 i10), (D.int .u32 i11), (D.int .u32 i12), (D.int .u32 i13)]))), (.row 139 true b14 l15)]
def ps3 : List PV := (up 3 ((.ptr 0 [] (.array 8 139)) :: ((.ptr 1 [] (.array 64 139)) :: (up 1 ((.ptr 2 [] (.array 8 139)) :: ((.ptr 3 [] (.array 8 139)) :: (up 9 ((.d (.array 64 139) .x) :: ((.d (.int .i64) (.int .i64)) :: (up 85 []))))))))))
def qs3 : List PO := [(.var (.array 8 139) (.d (.array 8 139) .x)), (.var (.array 64 139) (.d (.array 64 139) .x)), (.var (.array 8 139) (.d (.array 8 139) (.agg [(.int .u32), (.int .u32), (.int .u32), (.int .u32), (.int .u32), (.int .u32), (.int .u32), (.int .u32)]))), (.row 139 true)]
noncomputable def sum3 (M : Nat) : Sum := sumS [3, 4, 6, 7, 17, 18] ps3 qs3 [] of3 (st3 M) ex3 M
theorem sok3 (M : Nat) : SumOk (loopRd (e M) 89 3) (e M) (call (e M) 11) 89 0 (loopAt (e M) 89 3) (sum3 M) :=
  sumOk_st (T := tblOf (t89_0 M)) (n0 := 4) (lv := lv3) (t89_0_ok M) (by kernel_rfl) rfl (by intro ls s h; unfold of3 at h; (repeat' split at h) <;> simp at h; subst h; rfl) (by intro s; kernel_rfl) (by intro s; kernel_rfl) (by intro s nx k; kernel_rfl)
noncomputable def t89_1 (M : Nat) : List Ent := ⟨89, 11, 0, 3, sum3 M⟩ :: t89_0 M
theorem t89_1_ok (M : Nat) : AllOk (e M) (tblOf (t89_1 M)) := (t89_0_ok M).add ⟨89, 11, 0, 3, sum3 M⟩ (by kernel_rfl) (sok3 M)
structure S13 where
  i22 : Int
  d23 : D
  d24 : D
  i25 : Int
  i26 : Int
  i27 : Int
  i28 : Int
  i29 : Int
  i30 : Int
  i31 : Int
  i32 : Int
  b33 : Bool
  l34 : (List D)
inductive X13 where
  | e0 (i22 : Int) (d23 : D) (d24 : D) (i25 : Int) (i26 : Int) (i27 : Int) (i28 : Int) (i29 : Int) (i30 : Int) (i31 : Int) (i32 : Int) (b33 : Bool) (l34 : (List D))
def st13 (M : Nat) : S13 → (S13 → Option D) → (X13 → Option D) → Option D
  | ⟨i22, d23, d24, i25, i26, i27, i28, i29, i30, i31, i32, b33, l34⟩, rec, K => (cond (ltI i22 8) (cond (inb i22 8) (cond (inb i22 8) (cond (inb i22 8) (rec ⟨(ad .i64 i22 1), (D.agg (d23.parts.set i22.toNat (D.int .u32 (ad .u32 (d23.at i22.toNat).i (ix l34 i22.toNat).i)))), d24, i25, i26, i27, i28, i29, i30, i31, i32, b33, l34⟩) none) none) none) (K (.e0 i22 d23 d24 i25 i26 i27 i28 i29 i30 i31 i32 b33 l34)))
def lv13 : S13 → List Leaf
  | ⟨i22, d23, d24, i25, i26, i27, i28, i29, i30, i31, i32, b33, l34⟩ => [.i i22, .d d23, .d d24, .i i25, .i i26, .i i27, .i i28, .i i29, .i i30, .i i31, .i i32, .b b33, .l l34]
def of13 : List Leaf → Option S13
  | [.i i22, .d d23, .d d24, .i i25, .i i26, .i i27, .i i28, .i i29, .i i30, .i i31, .i i32, .b b33, .l l34] => some ⟨i22, d23, d24, i25, i26, i27, i28, i29, i30, i31, i32, b33, l34⟩
  | _ => none
def ex13 (k : Kont) : X13 → Option D
  | .e0 i22 d23 d24 i25 i26 i27 i28 i29 i30 i31 i32 b33 l34 => k (.exit 2) (us 3 ((.ptr 0 [] (.array 8 139)) :: (us 2 ((.ptr 2 [] (.array 8 139)) :: ((.ptr 3 [] (.array 8 139)) :: (us 83 ((.d (.int .i64) (di i22)) :: ((.d .bool (db (ltI i22 8))) :: (us 11 []))))))))) [(.var (.array 8 139) (.d (.array 8 139) d23)), (.var (.array 64 139) (.d (.array 64 139) d24)), (.var (.array 8 139) (.d (.array 8 139) (da [(D.int .u32 i25), (D.int .u32 i26), (D.int .u32 i27), (D.int .u32 i28), (D.int .u32 i29), (D.int .u32 i30), (D.int .u32 i31), (D.int .u32 i32)]))), (.row 139 true b33 l34)]
def ps13 : List PV := (up 3 ((.ptr 0 [] (.array 8 139)) :: (up 2 ((.ptr 2 [] (.array 8 139)) :: ((.ptr 3 [] (.array 8 139)) :: (up 83 ((.d (.int .i64) (.int .i64)) :: (up 12 []))))))))
def qs13 : List PO := [(.var (.array 8 139) (.d (.array 8 139) .x)), (.var (.array 64 139) (.d (.array 64 139) .x)), (.var (.array 8 139) (.d (.array 8 139) (.agg [(.int .u32), (.int .u32), (.int .u32), (.int .u32), (.int .u32), (.int .u32), (.int .u32), (.int .u32)]))), (.row 139 true)]
noncomputable def sum13 (M : Nat) : Sum := sumS [3, 6, 7, 91] ps13 qs13 [] of13 (st13 M) ex13 M
theorem sok13 (M : Nat) : SumOk (loopRd (e M) 89 13) (e M) (call (e M) 11) 89 0 (loopAt (e M) 89 13) (sum13 M) :=
  sumOk_st (T := tblOf (t89_1 M)) (n0 := 4) (lv := lv13) (t89_1_ok M) (by kernel_rfl) rfl (by intro ls s h; unfold of13 at h; (repeat' split at h) <;> simp at h; subst h; rfl) (by intro s; kernel_rfl) (by intro s; kernel_rfl) (by intro s nx k; kernel_rfl)
noncomputable def t89_2 (M : Nat) : List Ent := ⟨89, 11, 0, 13, sum13 M⟩ :: t89_1 M
theorem t89_2_ok (M : Nat) : AllOk (e M) (tblOf (t89_2 M)) := (t89_1_ok M).add ⟨89, 11, 0, 13, sum13 M⟩ (by kernel_rfl) (sok13 M)
def s (M : Nat) (p0 : D) (p1 : D) (p2 : ByteArray) : Option D :=
  (cond (Nat.beq p0.parts.length 8) (bd (F132.s FUEL p2) fun r1 => (goS (st3 M) M ⟨r1, 0, p0, p1, 0, 0, 0, 0, 0, 0, 0, 0, true, p0.parts⟩ fun x => match x with | .e0 d2 i3 d4 d5 i6 i7 i8 i9 i10 i11 i12 i13 b14 l15 => (goS (st13 M) M ⟨0, d4, d5, i6, i7, i8, i9, i10, i11, i12, i13, b14, l15⟩ fun x => match x with | .e0 i22 d23 d24 i25 i26 i27 i28 i29 i30 i31 i32 b33 l34 => (some d23)))) none)
theorem run (M : Nat) (p0 : D) (p1 : D) (p2 : ByteArray) : callS (e M) (tblOf (t89_2 M)) 12 (.fn 89) [.d (.array 8 139) p0, .d (.array 64 139) p1, .d .str (dS p2)] [] (fun v H => finish ty [140] v H) = s M p0 p1 p2 := by kernel_rfl
noncomputable abbrev t (M : Nat) : List Ent := t89_2 M
theorem t_ok (M : Nat) : AllOk (e M) (tblOf (t M)) := t89_2_ok M
def c : Con := { run := fun ds => match ds with | [p0, p1, p2] => s FUEL p0 p1 p2.s | _ => none, fresh := false, plain := true }
theorem fun_at : Tryz.prog.funcs[89]? = some Tryz.f89 := by kernel_rfl
theorem params : Tryz.f89.params.toList.map ty = [(.array 8 139), (.array 64 139), .str] := by kernel_rfl
theorem results : Tryz.f89.resultTypes.toList = [140] := by kernel_rfl
theorem flat : Tryz.f89.resultTypes.toList.all (fun t => K.flat ty 20 (ty t)) = true := by kernel_rfl
theorem ok : ConOk (89, c) := by
  intro fn hfn
  obtain rfl : Tryz.f89 = fn := Option.some.inj (fun_at.symm.trans hfn)
  refine contract_flat (n := 20) hgl (fun _ => flat) (fun ds r hh0 hr => ?_)
  rw [params] at hh0
  obtain ⟨p0, ds0, rfl, h0, hh1⟩ := hass_cons hh0
  obtain ⟨p1, ds1, rfl, h1, hh2⟩ := hass_cons hh1
  obtain ⟨p2, ds2, rfl, h2, hh3⟩ := hass_cons hh2
  obtain ⟨p2, rfl⟩ := has_str h2
  obtain rfl := hass_nil hh3
  refine ⟨e FUEL, DEPTH, tblOf (t FUEL), envOk (allCons F132.ok (allCons F133.ok allNil)) allNil, rfl, t_ok FUEL, ?_⟩
  rw [params, results]
  exact (run FUEL p0 p1 p2).trans hr
end F89
namespace F42
def cons : List (Nat × Con) := [(87, F87.c), (88, F88.c), (89, F89.c)]
def exts : List (Nat × Ext) := []
def h : List (Nat × Nat × Hint) := [(42, 3, { live := [2, 3, 4, 5], rows := [], own := false, inpl := false }), (42, 8, { live := [2, 3, 6, 24], rows := [], own := false, inpl := false })]
noncomputable def e (M : Nat) : Env := env cons exts h M
noncomputable def t42_0 (_ : Nat) : List Ent := []
theorem t42_0_ok (M : Nat) : AllOk (e M) (tblOf (t42_0 M)) := AllOk.nil
structure S3 where
  d3 : D
  d4 : D
  d5 : D
  d6 : D
inductive X3 where
  | e0 (d3 : D) (d4 : D) (d5 : D) (d6 : D)
def st3 (M : Nat) : S3 → (S3 → Option D) → (X3 → Option D) → Option D
  | ⟨d3, d4, d5, d6⟩, rec, K => (cond (gtI (nI d3.s.size) 0) (cond (true && true && (leI 64 (nI d3.s.size)) && (leI (nI d3.s.size) (nI d3.s.size))) (bd (F89.s FUEL d5 d6 (d3.s.extract 0 64)) fun r7 => (cond (true && (leI 64 (nI d3.s.size)) && (leI (nI d3.s.size) (nI d3.s.size)) && (leI (nI d3.s.size) (nI d3.s.size))) (rec ⟨(dS (d3.s.extract 64 d3.s.size)), d4, r7, d6⟩) none)) none) (K (.e0 d3 d4 d5 d6)))
def lv3 : S3 → List Leaf
  | ⟨d3, d4, d5, d6⟩ => [.d d3, .d d4, .d d5, .d d6]
def of3 : List Leaf → Option S3
  | [.d d3, .d d4, .d d5, .d d6] => some ⟨d3, d4, d5, d6⟩
  | _ => none
def ex3 (k : Kont) : X3 → Option D
  | .e0 d3 d4 d5 d6 => k (.exit 0) (us 2 ((.ptr 0 [] (.array 32 5)) :: ((.ptr 1 [] (.array 8 139)) :: ((.ptr 2 [] (.array 64 139)) :: ((.d .str d3) :: (us 8 ((.d .str d3) :: ((.d (.int .i64) (di (nI d3.s.size))) :: ((.d .bool (db (gtI (nI d3.s.size) 0))) :: (us 24 [])))))))))) [(.var (.array 32 5) (.d (.array 32 5) d4)), (.var (.array 8 139) (.d (.array 8 139) d5)), (.var (.array 64 139) (.d (.array 64 139) d6))]
def ps3 : List PV := (up 2 ((.ptr 0 [] (.array 32 5)) :: ((.ptr 1 [] (.array 8 139)) :: ((.ptr 2 [] (.array 64 139)) :: ((.d .str .x) :: (up 35 []))))))
def qs3 : List PO := [(.var (.array 32 5) (.d (.array 32 5) .x)), (.var (.array 8 139) (.d (.array 8 139) .x)), (.var (.array 64 139) (.d (.array 64 139) .x))]
noncomputable def sum3 (M : Nat) : Sum := sumS [2, 3, 4, 5] ps3 qs3 [] of3 (st3 M) ex3 M
theorem sok3 (M : Nat) : SumOk (loopRd (e M) 42 3) (e M) (call (e M) 11) 42 0 (loopAt (e M) 42 3) (sum3 M) :=
  sumOk_st (T := tblOf (t42_0 M)) (n0 := 3) (lv := lv3) (t42_0_ok M) (by kernel_rfl) rfl (by intro ls s h; unfold of3 at h; (repeat' split at h) <;> simp at h; subst h; rfl) (by intro s; kernel_rfl) (by intro s; kernel_rfl) (by intro s nx k; kernel_rfl)
noncomputable def t42_1 (M : Nat) : List Ent := ⟨42, 11, 0, 3, sum3 M⟩ :: t42_0 M
theorem t42_1_ok (M : Nat) : AllOk (e M) (tblOf (t42_1 M)) := (t42_0_ok M).add ⟨42, 11, 0, 3, sum3 M⟩ (by kernel_rfl) (sok3 M)
structure S8 where
  i8 : Int
  d9 : D
  d10 : D
  d11 : D
  d12 : D
inductive X8 where
  | e0 (i8 : Int) (d9 : D) (d10 : D) (d11 : D) (d12 : D)
def st8 (M : Nat) : S8 → (S8 → Option D) → (X8 → Option D) → Option D
  | ⟨i8, d9, d10, d11, d12⟩, rec, K => (cond (ltI i8 32) (cond (inb (quoI .i64 i8 4) 8) (bd (if (sb .i64 24 (ml .i64 8 (remI i8 4))) < 0 then none else some (.int .u32 (shrI .u32 (d10.at (quoI .i64 i8 4).toNat).i (sb .i64 24 (ml .i64 8 (remI i8 4))).toNat))) fun r13 => (cond (inb i8 32) (rec ⟨(ad .i64 i8 1), d9, d10, d11, (D.agg (d12.parts.set i8.toNat (D.int .u8 (cv .u8 r13.i))))⟩) none)) none) (K (.e0 i8 d9 d10 d11 d12)))
def lv8 : S8 → List Leaf
  | ⟨i8, d9, d10, d11, d12⟩ => [.i i8, .d d9, .d d10, .d d11, .d d12]
def of8 : List Leaf → Option S8
  | [.i i8, .d d9, .d d10, .d d11, .d d12] => some ⟨i8, d9, d10, d11, d12⟩
  | _ => none
def ex8 (k : Kont) : X8 → Option D
  | .e0 i8 d9 d10 d11 d12 => k (.exit 2) (us 2 ((.ptr 0 [] (.array 32 5)) :: ((.ptr 1 [] (.array 8 139)) :: (us 2 ((.ptr 3 [] (.array 32 5)) :: (us 17 ((.d (.int .i64) (di i8)) :: ((.d .bool (db (ltI i8 32))) :: (us 15 []))))))))) [(.var (.array 32 5) (.d (.array 32 5) d9)), (.var (.array 8 139) (.d (.array 8 139) d10)), (.var (.array 64 139) (.d (.array 64 139) d11)), (.var (.array 32 5) (.d (.array 32 5) d12))]
def ps8 : List PV := (up 2 ((.ptr 0 [] (.array 32 5)) :: ((.ptr 1 [] (.array 8 139)) :: (up 2 ((.ptr 3 [] (.array 32 5)) :: (up 17 ((.d (.int .i64) (.int .i64)) :: (up 16 []))))))))
def qs8 : List PO := [(.var (.array 32 5) (.d (.array 32 5) .x)), (.var (.array 8 139) (.d (.array 8 139) .x)), (.var (.array 64 139) (.d (.array 64 139) .x)), (.var (.array 32 5) (.d (.array 32 5) .x))]
noncomputable def sum8 (M : Nat) : Sum := sumS [2, 3, 6, 24] ps8 qs8 [] of8 (st8 M) ex8 M
theorem sok8 (M : Nat) : SumOk (loopRd (e M) 42 8) (e M) (call (e M) 11) 42 0 (loopAt (e M) 42 8) (sum8 M) :=
  sumOk_st (T := tblOf (t42_1 M)) (n0 := 4) (lv := lv8) (t42_1_ok M) (by kernel_rfl) rfl (by intro ls s h; unfold of8 at h; (repeat' split at h) <;> simp at h; subst h; rfl) (by intro s; kernel_rfl) (by intro s; kernel_rfl) (by intro s nx k; kernel_rfl)
noncomputable def t42_2 (M : Nat) : List Ent := ⟨42, 11, 0, 8, sum8 M⟩ :: t42_1 M
theorem t42_2_ok (M : Nat) : AllOk (e M) (tblOf (t42_2 M)) := (t42_1_ok M).add ⟨42, 11, 0, 8, sum8 M⟩ (by kernel_rfl) (sok8 M)
def s (M : Nat) (p0 : ByteArray) : Option D :=
  (bd (F87.s FUEL) fun r1 => (bd (F88.s FUEL p0) fun r2 => (goS (st3 M) M ⟨r2, (da (rp 32 (D.int .u8 0))), (r1.at 0), (r1.at 1)⟩ fun x => match x with | .e0 d3 d4 d5 d6 => (goS (st8 M) M ⟨0, d4, d5, d6, (da (rp 32 (D.int .u8 0)))⟩ fun x => match x with | .e0 i8 d9 d10 d11 d12 => (some d12)))))
theorem run (M : Nat) (p0 : ByteArray) : callS (e M) (tblOf (t42_2 M)) 12 (.fn 42) [.d .str (dS p0)] [] (fun v H => finish ty [56] v H) = s M p0 := by kernel_rfl
noncomputable abbrev t (M : Nat) : List Ent := t42_2 M
theorem t_ok (M : Nat) : AllOk (e M) (tblOf (t M)) := t42_2_ok M
def c : Con := { run := fun ds => match ds with | [p0] => s FUEL p0.s | _ => none, fresh := false, plain := true }
theorem fun_at : Tryz.prog.funcs[42]? = some Tryz.f42 := by kernel_rfl
theorem params : Tryz.f42.params.toList.map ty = [.str] := by kernel_rfl
theorem results : Tryz.f42.resultTypes.toList = [56] := by kernel_rfl
theorem flat : Tryz.f42.resultTypes.toList.all (fun t => K.flat ty 20 (ty t)) = true := by kernel_rfl
theorem ok : ConOk (42, c) := by
  intro fn hfn
  obtain rfl : Tryz.f42 = fn := Option.some.inj (fun_at.symm.trans hfn)
  refine contract_flat (n := 20) hgl (fun _ => flat) (fun ds r hh0 hr => ?_)
  rw [params] at hh0
  obtain ⟨p0, ds0, rfl, h0, hh1⟩ := hass_cons hh0
  obtain ⟨p0, rfl⟩ := has_str h0
  obtain rfl := hass_nil hh1
  refine ⟨e FUEL, DEPTH, tblOf (t FUEL), envOk (allCons F87.ok (allCons F88.ok (allCons F89.ok allNil))) allNil, rfl, t_ok FUEL, ?_⟩
  rw [params, results]
  exact (run FUEL p0).trans hr
end F42
namespace F139
def cons : List (Nat × Con) := [(42, F42.c)]
def exts : List (Nat × Ext) := []
def h : List (Nat × Nat × Hint) := []
noncomputable def e (M : Nat) : Env := env cons exts h M
noncomputable def t139_0 (_ : Nat) : List Ent := []
theorem t139_0_ok (M : Nat) : AllOk (e M) (tblOf (t139_0 M)) := AllOk.nil
def s (M : Nat) (p0 : D) (p1 : D) : Option D :=
  (cond (eqI (p1.at 0).i 1) (some (da [(p1.at 0), (p0.at 0), (dS (bs [])), (di 0), (di (nI (p1.at 2).s.size)), (da (rp 32 (D.int .u8 0)))])) (cond (eqI (p1.at 0).i 2) (bd (F42.s FUEL (p0.at 2).s) fun r1 => (some (da [(p1.at 0), (p0.at 0), (dS (bs [])), (p1.at 3), (di (nI (p0.at 2).s.size)), r1]))) (cond (eqI (p1.at 0).i 3) (some (da [(p1.at 0), (p0.at 0), (dS (bs [])), (p1.at 3), (di 0), (da (rp 32 (D.int .u8 0)))])) (cond (eqI (p1.at 0).i 4) (cond (eqI (p1.at 0).i 4) (some (da [(p1.at 0), (p0.at 0), (p1.at 2), (di 0), (di 0), (da (rp 32 (D.int .u8 0)))])) (some (da [(p1.at 0), (p0.at 0), (dS (bs [])), (di 0), (di 0), (da (rp 32 (D.int .u8 0)))]))) (cond (eqI (p1.at 0).i 5) (some (da [(p1.at 0), (p0.at 0), (p1.at 2), (di 0), (di 0), (da (rp 32 (D.int .u8 0)))])) (some (da [(p1.at 0), (p0.at 0), (dS (bs [])), (di 0), (di 0), (da (rp 32 (D.int .u8 0)))])))))))
theorem run (M : Nat) (p0 : D) (p1 : D) : callS (e M) (tblOf (t139_0 M)) 12 (.fn 139) [.d (.struct [3, 9, 9, 4, 3, 37]) p0, .d (.struct [50, 9, 9, 3, 3, 3]) p1] [] (fun v H => finish ty [58] v H) = s M p0 p1 := by kernel_rfl
noncomputable abbrev t (M : Nat) : List Ent := t139_0 M
theorem t_ok (M : Nat) : AllOk (e M) (tblOf (t M)) := t139_0_ok M
def c : Con := { run := fun ds => match ds with | [p0, p1] => s FUEL p0 p1 | _ => none, fresh := false, plain := true }
theorem fun_at : Tryz.prog.funcs[139]? = some Tryz.f139 := by kernel_rfl
theorem params : Tryz.f139.params.toList.map ty = [(.struct [3, 9, 9, 4, 3, 37]), (.struct [50, 9, 9, 3, 3, 3])] := by kernel_rfl
theorem results : Tryz.f139.resultTypes.toList = [58] := by kernel_rfl
theorem flat : Tryz.f139.resultTypes.toList.all (fun t => K.flat ty 20 (ty t)) = true := by kernel_rfl
theorem ok : ConOk (139, c) := by
  intro fn hfn
  obtain rfl : Tryz.f139 = fn := Option.some.inj (fun_at.symm.trans hfn)
  refine contract_flat (n := 20) hgl (fun _ => flat) (fun ds r hh0 hr => ?_)
  rw [params] at hh0
  obtain ⟨p0, ds0, rfl, h0, hh1⟩ := hass_cons hh0
  obtain ⟨p1, ds1, rfl, h1, hh2⟩ := hass_cons hh1
  obtain rfl := hass_nil hh2
  refine ⟨e FUEL, DEPTH, tblOf (t FUEL), envOk (allCons F42.ok allNil) allNil, rfl, t_ok FUEL, ?_⟩
  rw [params, results]
  exact (run FUEL p0 p1).trans hr
end F139
namespace F108
def cons : List (Nat × Con) := [(76, F76.c), (79, F79.c), (81, F81.c), (83, F83.c), (85, F85.c), (138, F138.c), (139, F139.c), (148, F148.c)]
def exts : List (Nat × Ext) := []
def h : List (Nat × Nat × Hint) := []
noncomputable def e (M : Nat) : Env := env cons exts h M
noncomputable def t108_0 (_ : Nat) : List Ent := []
theorem t108_0_ok (M : Nat) : AllOk (e M) (tblOf (t108_0 M)) := AllOk.nil
def s (M : Nat) (p0 : D) (p1 : D) (p2 : Int) : Option D :=
  (cond (eqI (p1.at 0).i 1) (cond (eqI (p1.at 0).i 0) (some (D.tup [p0, (da [(di 0), (di 0), (dS (bs [])), (di 0), (di 0), (da (rp 32 (D.int .u8 0)))]), (di 4)])) (cond (eqI (p1.at 0).i 6) none (bd (F148.s FUEL p0 (p1.at 2).s) fun r1 => (cond (neI (r1.at 1).i 0) (some (D.tup [p0, (da [(di 0), (di 0), (dS (bs [])), (di 0), (di 0), (da (rp 32 (D.int .u8 0)))]), (r1.at 1)])) (bd (F139.s FUEL p0 p1) fun r2 => (some (D.tup [(r1.at 0), r2, (di 0)]))))))) (cond (eqI (p1.at 0).i 4) (cond (eqI (p1.at 0).i 0) (some (D.tup [p0, (da [(di 0), (di 0), (dS (bs [])), (di 0), (di 0), (da (rp 32 (D.int .u8 0)))]), (di 4)])) (cond (eqI (p1.at 0).i 6) none (bd (F81.s FUEL p0 (p1.at 2).s) fun r3 => (cond (neI (r3.at 1).i 0) (some (D.tup [p0, (da [(di 0), (di 0), (dS (bs [])), (di 0), (di 0), (da (rp 32 (D.int .u8 0)))]), (r3.at 1)])) (bd (F139.s FUEL p0 p1) fun r4 => (some (D.tup [(r3.at 0), r4, (di 0)]))))))) (cond (eqI (p1.at 0).i 5) (cond (eqI (p1.at 0).i 0) (some (D.tup [p0, (da [(di 0), (di 0), (dS (bs [])), (di 0), (di 0), (da (rp 32 (D.int .u8 0)))]), (di 4)])) (cond (eqI (p1.at 0).i 6) none (bd (F83.s FUEL p0 (p1.at 2).s) fun r5 => (cond (neI (r5.at 1).i 0) (some (D.tup [p0, (da [(di 0), (di 0), (dS (bs [])), (di 0), (di 0), (da (rp 32 (D.int .u8 0)))]), (r5.at 1)])) (bd (F139.s FUEL p0 p1) fun r6 => (some (D.tup [(r5.at 0), r6, (di 0)]))))))) (cond (eqI (p1.at 0).i 2) (cond (eqI (p1.at 0).i 0) (some (D.tup [p0, (da [(di 0), (di 0), (dS (bs [])), (di 0), (di 0), (da (rp 32 (D.int .u8 0)))]), (di 4)])) (cond (eqI (p1.at 0).i 6) none (bd (F76.s FUEL p0 (p1.at 3).i) fun r7 => (cond (neI (r7.at 1).i 0) (some (D.tup [p0, (da [(di 0), (di 0), (dS (bs [])), (di 0), (di 0), (da (rp 32 (D.int .u8 0)))]), (r7.at 1)])) (bd (F139.s FUEL p0 p1) fun r8 => (some (D.tup [(r7.at 0), r8, (di 0)]))))))) (cond (eqI (p1.at 0).i 3) (cond (eqI (p1.at 0).i 0) (some (D.tup [p0, (da [(di 0), (di 0), (dS (bs [])), (di 0), (di 0), (da (rp 32 (D.int .u8 0)))]), (di 4)])) (cond (eqI (p1.at 0).i 6) none (bd (F79.s FUEL p0 (p1.at 3).i) fun r9 => (cond (neI (r9.at 1).i 0) (some (D.tup [p0, (da [(di 0), (di 0), (dS (bs [])), (di 0), (di 0), (da (rp 32 (D.int .u8 0)))]), (r9.at 1)])) (bd (F139.s FUEL p0 p1) fun r10 => (some (D.tup [(r9.at 0), r10, (di 0)]))))))) (cond (eqI (p1.at 0).i 6) (cond (eqI (p1.at 0).i 0) (some (D.tup [p0, (da [(di 0), (di 0), (dS (bs [])), (di 0), (di 0), (da (rp 32 (D.int .u8 0)))]), (di 4)])) (cond (eqI (p1.at 0).i 6) (bd (F85.s FUEL p0 p2) fun r11 => (cond (neI r11.i 0) (some (D.tup [p0, (da [(di 0), (di 0), (dS (bs [])), (di 0), (di 0), (da (rp 32 (D.int .u8 0)))]), r11])) (bd (F139.s FUEL p0 p1) fun r12 => (some (D.tup [(da [(di 0), (dS (bs [])), (dS (bs [])), (db false), (di 0), (dl false [])]), r12, (di 0)]))))) none)) (cond (eqI (p1.at 0).i 0) (some (D.tup [p0, (da [(di 0), (di 0), (dS (bs [])), (di 0), (di 0), (da (rp 32 (D.int .u8 0)))]), (di 4)])) (some (D.tup [p0, (da [(di 0), (di 0), (dS (bs [])), (di 0), (di 0), (da (rp 32 (D.int .u8 0)))]), (di 1)])))))))))
theorem run (M : Nat) (p0 : D) (p1 : D) (p2 : Int) : callS (e M) (tblOf (t108_0 M)) 12 (.fn 108) [.d (.struct [3, 9, 9, 4, 3, 37]) p0, .d (.struct [50, 9, 9, 3, 3, 3]) p1, .d (.int .i64) (di p2)] [] (fun v H => finish ty [39, 58, 36] v H) = s M p0 p1 p2 := by kernel_rfl
noncomputable abbrev t (M : Nat) : List Ent := t108_0 M
theorem t_ok (M : Nat) : AllOk (e M) (tblOf (t M)) := t108_0_ok M
def c : Con := { run := fun ds => match ds with | [p0, p1, p2] => s FUEL p0 p1 p2.i | _ => none, fresh := false, plain := false }
theorem fun_at : Tryz.prog.funcs[108]? = some Tryz.f108 := by kernel_rfl
theorem params : Tryz.f108.params.toList.map ty = [(.struct [3, 9, 9, 4, 3, 37]), (.struct [50, 9, 9, 3, 3, 3]), (.int .i64)] := by kernel_rfl
theorem results : Tryz.f108.resultTypes.toList = [39, 58, 36] := by kernel_rfl
theorem ok : ConOk (108, c) := by
  intro fn hfn
  obtain rfl : Tryz.f108 = fn := Option.some.inj (fun_at.symm.trans hfn)
  refine contract_flat (n := 20) hgl (fun h => by simp at h) (fun ds r hh0 hr => ?_)
  rw [params] at hh0
  obtain ⟨p0, ds0, rfl, h0, hh1⟩ := hass_cons hh0
  obtain ⟨p1, ds1, rfl, h1, hh2⟩ := hass_cons hh1
  obtain ⟨p2, ds2, rfl, h2, hh3⟩ := hass_cons hh2
  obtain ⟨p2, rfl⟩ := has_int h2
  obtain rfl := hass_nil hh3
  refine ⟨e FUEL, DEPTH, tblOf (t FUEL), envOk (allCons F76.ok (allCons F79.ok (allCons F81.ok (allCons F83.ok (allCons F85.ok (allCons F138.ok (allCons F139.ok (allCons F148.ok allNil)))))))) allNil, rfl, t_ok FUEL, ?_⟩
  rw [params, results]
  exact (run FUEL p0 p1 p2).trans hr
end F108
namespace F110
def cons : List (Nat × Con) := []
def exts : List (Nat × Ext) := []
def h : List (Nat × Nat × Hint) := []
noncomputable def e (M : Nat) : Env := env cons exts h M
noncomputable def t110_0 (_ : Nat) : List Ent := []
theorem t110_0_ok (M : Nat) : AllOk (e M) (tblOf (t110_0 M)) := AllOk.nil
def s (M : Nat) (p0 : Int) (p1 : Int) : Option D :=
  (some (di (maxi p0 (mini (maxi p1 0) 1099511627776))))
theorem run (M : Nat) (p0 : Int) (p1 : Int) : callS (e M) (tblOf (t110_0 M)) 12 (.fn 110) [.d (.int .i64) (di p0), .d (.int .i64) (di p1)] [] (fun v H => finish ty [3] v H) = s M p0 p1 := by kernel_rfl
noncomputable abbrev t (M : Nat) : List Ent := t110_0 M
theorem t_ok (M : Nat) : AllOk (e M) (tblOf (t M)) := t110_0_ok M
def c : Con := { run := fun ds => match ds with | [p0, p1] => s FUEL p0.i p1.i | _ => none, fresh := false, plain := true }
theorem fun_at : Tryz.prog.funcs[110]? = some Tryz.f110 := by kernel_rfl
theorem params : Tryz.f110.params.toList.map ty = [(.int .i64), (.int .i64)] := by kernel_rfl
theorem results : Tryz.f110.resultTypes.toList = [3] := by kernel_rfl
theorem flat : Tryz.f110.resultTypes.toList.all (fun t => K.flat ty 20 (ty t)) = true := by kernel_rfl
theorem ok : ConOk (110, c) := by
  intro fn hfn
  obtain rfl : Tryz.f110 = fn := Option.some.inj (fun_at.symm.trans hfn)
  refine contract_flat (n := 20) hgl (fun _ => flat) (fun ds r hh0 hr => ?_)
  rw [params] at hh0
  obtain ⟨p0, ds0, rfl, h0, hh1⟩ := hass_cons hh0
  obtain ⟨p0, rfl⟩ := has_int h0
  obtain ⟨p1, ds1, rfl, h1, hh2⟩ := hass_cons hh1
  obtain ⟨p1, rfl⟩ := has_int h1
  obtain rfl := hass_nil hh2
  refine ⟨e FUEL, DEPTH, tblOf (t FUEL), envOk allNil allNil, rfl, t_ok FUEL, ?_⟩
  rw [params, results]
  exact (run FUEL p0 p1).trans hr
end F110
namespace F111
def cons : List (Nat × Con) := [(85, F85.c)]
def exts : List (Nat × Ext) := []
def h : List (Nat × Nat × Hint) := [(111, 4, { live := [5], rows := [], own := false, inpl := false }), (149, 1, { live := [0, 2, 6, 7, 8], rows := [(1048576, 3)], own := false, inpl := false })]
noncomputable def e (M : Nat) : Env := env cons exts h M
noncomputable def t111_0 (_ : Nat) : List Ent := []
theorem t111_0_ok (M : Nat) : AllOk (e M) (tblOf (t111_0 M)) := AllOk.nil
structure S149_1 where
  d1 : D
  i2 : Int
  i3 : Int
  n4 : Nat
  n5 : Nat
  d6 : D
  i7 : Int
  b8 : Bool
  l9 : (List D)
inductive X149_1 where
  | e0 (d1 : D) (i2 : Int) (i3 : Int) (n4 : Nat) (n5 : Nat) (d6 : D) (i7 : Int) (b8 : Bool) (l9 : (List D))
def st149_1 (M : Nat) : S149_1 → (S149_1 → Option D) → (X149_1 → Option D) → Option D
  | ⟨d1, i2, i3, n4, n5, d6, i7, b8, l9⟩, rec, K => (cond (ltI i3 i2) (cond (inb i3 d1.elems.length) (bd (F85.s FUEL (ix d1.elems i3.toNat) i7) fun r10 => (cond (eqI r10.i 0) (cond (mx (n5 + 1)) (rec ⟨d1, i2, (ad .i64 i3 1), 0, (n5 + 1), d6, i7, (b8 || true), (ap ((l9.drop n4).take n5) [((ix d1.elems i3.toNat).at 0)])⟩) none) (rec ⟨d1, i2, (ad .i64 i3 1), n4, n5, d6, i7, b8, l9⟩))) none) (K (.e0 d1 i2 i3 n4 n5 d6 i7 b8 l9)))
def lv149_1 : S149_1 → List Leaf
  | ⟨d1, i2, i3, n4, n5, d6, i7, b8, l9⟩ => [.d d1, .i i2, .i i3, .n n4, .n n5, .d d6, .i i7, .b b8, .l l9]
def of149_1 : List Leaf → Option S149_1
  | [.d d1, .i i2, .i i3, .n n4, .n n5, .d d6, .i i7, .b b8, .l l9] => some ⟨d1, i2, i3, n4, n5, d6, i7, b8, l9⟩
  | _ => none
def ex149_1 (k : Kont) : X149_1 → Option D
  | .e0 d1 i2 i3 n4 n5 d6 i7 b8 l9 => k (.exit 0) ((.yield 3) :: (us 1 ((.ptr 2 [] (.int .i64)) :: (us 3 ((.d (.slice 39) d1) :: ((.d (.int .i64) (di i2)) :: ((.d (.int .i64) (di i3)) :: ((.d .bool (db (ltI i3 i2))) :: (us 13 []))))))))) [(.var (.slice 3) (.sref 4 n4 n5)), (.var (.slice 39) (.d (.slice 39) d6)), (.var (.int .i64) (.d (.int .i64) (di i7))), (.loop .ready 111 4 (.tup (us 5 ((.ptr 0 [] (.slice 3)) :: (us 11 []))))), (.row 3 true b8 l9)]
def ps149_1 : List PV := ((.yield 3) :: (up 1 ((.ptr 2 [] (.int .i64)) :: (up 3 ((.d (.slice 39) .x) :: ((.d (.int .i64) (.int .i64)) :: ((.d (.int .i64) (.int .i64)) :: (up 14 []))))))))
def qs149_1 : List PO := [(.var (.slice 3) (.sref 4)), (.var (.slice 39) (.d (.slice 39) .x)), (.var (.int .i64) (.d (.int .i64) (.int .i64))), (.loop false 111 4 (.tup (up 5 ((.ptr 0 [] (.slice 3)) :: (up 11 []))))), (.row 3 true)]
noncomputable def sum149_1 (M : Nat) : Sum := sumS [0, 2, 6, 7, 8] ps149_1 qs149_1 [(1048576, 4)] of149_1 (st149_1 M) ex149_1 M
theorem sok149_1 (M : Nat) : SumOk (loopRd (e M) 149 1) (e M) (call (e M) 10) 149 4 (loopAt (e M) 149 1) (sum149_1 M) :=
  sumOk_st (T := tblOf (t111_0 M)) (n0 := 5) (lv := lv149_1) (t111_0_ok M) (by kernel_rfl) rfl (by intro ls s h; unfold of149_1 at h; (repeat' split at h) <;> simp at h; subst h; rfl) (by intro s; kernel_rfl) (by intro s; kernel_rfl) (by intro s nx k; kernel_rfl)
noncomputable def t111_1 (M : Nat) : List Ent := ⟨149, 10, 4, 1, sum149_1 M⟩ :: t111_0 M
theorem t111_1_ok (M : Nat) : AllOk (e M) (tblOf (t111_1 M)) := (t111_0_ok M).add ⟨149, 10, 4, 1, sum149_1 M⟩ (by kernel_rfl) (sok149_1 M)
def s (M : Nat) (p0 : D) (p1 : Int) : Option D :=
  (goS (st149_1 M) M ⟨p0, (nI p0.elems.length), 0, 0, 0, p0, p1, false, []⟩ fun x => match x with | .e0 d1 i2 i3 n4 n5 d6 i7 b8 l9 => (cond ((decide (n5 = l9.length)) && (decide (n4 = 0))) (some (.slice b8 l9)) none))
theorem run (M : Nat) (p0 : D) (p1 : Int) : callS (e M) (tblOf (t111_1 M)) 12 (.fn 111) [.d (.slice 39) p0, .d (.int .i64) (di p1)] [] (fun v H => finishFresh ty [152] v H) = s M p0 p1 := by kernel_rfl
noncomputable abbrev t (M : Nat) : List Ent := t111_1 M
theorem t_ok (M : Nat) : AllOk (e M) (tblOf (t M)) := t111_1_ok M
def c : Con := { run := fun ds => match ds with | [p0, p1] => s FUEL p0 p1.i | _ => none, fresh := true, plain := false }
theorem fun_at : Tryz.prog.funcs[111]? = some Tryz.f111 := by kernel_rfl
theorem params : Tryz.f111.params.toList.map ty = [(.slice 39), (.int .i64)] := by kernel_rfl
theorem results : Tryz.f111.resultTypes.toList = [152] := by kernel_rfl
theorem ok : ConOk (111, c) := by
  intro fn hfn
  obtain rfl : Tryz.f111 = fn := Option.some.inj (fun_at.symm.trans hfn)
  refine contract_of_fresh hgl rfl rfl (fun ds r hh0 hr => ?_)
  rw [params] at hh0
  obtain ⟨p0, ds0, rfl, h0, hh1⟩ := hass_cons hh0
  obtain ⟨p1, ds1, rfl, h1, hh2⟩ := hass_cons hh1
  obtain ⟨p1, rfl⟩ := has_int h1
  obtain rfl := hass_nil hh2
  refine ⟨e FUEL, DEPTH, tblOf (t FUEL), envOk (allCons F85.ok allNil) allNil, rfl, t_ok FUEL, ?_⟩
  rw [params, results]
  exact (run FUEL p0 p1).trans hr
end F111
namespace F114
def cons : List (Nat × Con) := []
def exts : List (Nat × Ext) := []
def h : List (Nat × Nat × Hint) := []
noncomputable def e (M : Nat) : Env := env cons exts h M
noncomputable def t114_0 (_ : Nat) : List Ent := []
theorem t114_0_ok (M : Nat) : AllOk (e M) (tblOf (t114_0 M)) := AllOk.nil
def s (M : Nat) (p0 : D) (p1 : Int) (p2 : Int) : Option D :=
  (cond (ltI p1 0) (some (D.tup [(dS (bs [])), (di 1)])) (cond (ltI p2 p1) (some (D.tup [(dS (bs [])), (di 1)])) (cond (gtI p2 (nI (p0.at 2).s.size)) (some (D.tup [(dS (bs [])), (di 1)])) (cond ((leI 0 p1) && (leI p1 p2) && (leI p2 (nI (p0.at 2).s.size)) && (leI (nI (p0.at 2).s.size) (nI (p0.at 2).s.size))) (some (D.tup [(dS ((p0.at 2).s.extract p1.toNat p2.toNat)), (di 0)])) none))))
theorem run (M : Nat) (p0 : D) (p1 : Int) (p2 : Int) : callS (e M) (tblOf (t114_0 M)) 12 (.fn 114) [.d (.struct [3, 9, 9, 4, 3, 37]) p0, .d (.int .i64) (di p1), .d (.int .i64) (di p2)] [] (fun v H => finish ty [9, 36] v H) = s M p0 p1 p2 := by kernel_rfl
noncomputable abbrev t (M : Nat) : List Ent := t114_0 M
theorem t_ok (M : Nat) : AllOk (e M) (tblOf (t M)) := t114_0_ok M
def c : Con := { run := fun ds => match ds with | [p0, p1, p2] => s FUEL p0 p1.i p2.i | _ => none, fresh := false, plain := true }
theorem fun_at : Tryz.prog.funcs[114]? = some Tryz.f114 := by kernel_rfl
theorem params : Tryz.f114.params.toList.map ty = [(.struct [3, 9, 9, 4, 3, 37]), (.int .i64), (.int .i64)] := by kernel_rfl
theorem results : Tryz.f114.resultTypes.toList = [9, 36] := by kernel_rfl
theorem flat : Tryz.f114.resultTypes.toList.all (fun t => K.flat ty 20 (ty t)) = true := by kernel_rfl
theorem ok : ConOk (114, c) := by
  intro fn hfn
  obtain rfl : Tryz.f114 = fn := Option.some.inj (fun_at.symm.trans hfn)
  refine contract_flat (n := 20) hgl (fun _ => flat) (fun ds r hh0 hr => ?_)
  rw [params] at hh0
  obtain ⟨p0, ds0, rfl, h0, hh1⟩ := hass_cons hh0
  obtain ⟨p1, ds1, rfl, h1, hh2⟩ := hass_cons hh1
  obtain ⟨p1, rfl⟩ := has_int h1
  obtain ⟨p2, ds2, rfl, h2, hh3⟩ := hass_cons hh2
  obtain ⟨p2, rfl⟩ := has_int h2
  obtain rfl := hass_nil hh3
  refine ⟨e FUEL, DEPTH, tblOf (t FUEL), envOk allNil allNil, rfl, t_ok FUEL, ?_⟩
  rw [params, results]
  exact (run FUEL p0 p1 p2).trans hr
end F114
namespace F41
def cons : List (Nat × Con) := []
def exts : List (Nat × Ext) := []
def h : List (Nat × Nat × Hint) := []
noncomputable def e (M : Nat) : Env := env cons exts h M
noncomputable def t41_0 (_ : Nat) : List Ent := []
theorem t41_0_ok (M : Nat) : AllOk (e M) (tblOf (t41_0 M)) := AllOk.nil
def s (M : Nat) (p0 : D) : Option D :=
  (some (D.agg (p0.parts.set 2 (dS (bs [])))))
theorem run (M : Nat) (p0 : D) : callS (e M) (tblOf (t41_0 M)) 12 (.fn 41) [.d (.struct [3, 9, 9, 4, 3, 37]) p0] [] (fun v H => finish ty [39] v H) = s M p0 := by kernel_rfl
noncomputable abbrev t (M : Nat) : List Ent := t41_0 M
theorem t_ok (M : Nat) : AllOk (e M) (tblOf (t M)) := t41_0_ok M
def c : Con := { run := fun ds => match ds with | [p0] => s FUEL p0 | _ => none, fresh := false, plain := false }
theorem fun_at : Tryz.prog.funcs[41]? = some Tryz.f41 := by kernel_rfl
theorem params : Tryz.f41.params.toList.map ty = [(.struct [3, 9, 9, 4, 3, 37])] := by kernel_rfl
theorem results : Tryz.f41.resultTypes.toList = [39] := by kernel_rfl
theorem ok : ConOk (41, c) := by
  intro fn hfn
  obtain rfl : Tryz.f41 = fn := Option.some.inj (fun_at.symm.trans hfn)
  refine contract_flat (n := 20) hgl (fun h => by simp at h) (fun ds r hh0 hr => ?_)
  rw [params] at hh0
  obtain ⟨p0, ds0, rfl, h0, hh1⟩ := hass_cons hh0
  obtain rfl := hass_nil hh1
  refine ⟨e FUEL, DEPTH, tblOf (t FUEL), envOk allNil allNil, rfl, t_ok FUEL, ?_⟩
  rw [params, results]
  exact (run FUEL p0).trans hr
end F41
namespace F116
def cons : List (Nat × Con) := [(102, F102.c)]
def exts : List (Nat × Ext) := []
def h : List (Nat × Nat × Hint) := []
noncomputable def e (M : Nat) : Env := env cons exts h M
noncomputable def t116_0 (_ : Nat) : List Ent := []
theorem t116_0_ok (M : Nat) : AllOk (e M) (tblOf (t116_0 M)) := AllOk.nil
def s (M : Nat) (p0 : ByteArray) (p1 : ByteArray) : Option D :=
  (bd (F102.s FUEL p0 p1) fun r1 => (cond r1.b (some (di (-1))) (bd (F102.s FUEL p1 p0) fun r2 => (cond r2.b (some (di 1)) (some (di 0))))))
theorem run (M : Nat) (p0 : ByteArray) (p1 : ByteArray) : callS (e M) (tblOf (t116_0 M)) 12 (.fn 116) [.d .str (dS p0), .d .str (dS p1)] [] (fun v H => finish ty [3] v H) = s M p0 p1 := by kernel_rfl
noncomputable abbrev t (M : Nat) : List Ent := t116_0 M
theorem t_ok (M : Nat) : AllOk (e M) (tblOf (t M)) := t116_0_ok M
def c : Con := { run := fun ds => match ds with | [p0, p1] => s FUEL p0.s p1.s | _ => none, fresh := false, plain := true }
theorem fun_at : Tryz.prog.funcs[116]? = some Tryz.f116 := by kernel_rfl
theorem params : Tryz.f116.params.toList.map ty = [.str, .str] := by kernel_rfl
theorem results : Tryz.f116.resultTypes.toList = [3] := by kernel_rfl
theorem flat : Tryz.f116.resultTypes.toList.all (fun t => K.flat ty 20 (ty t)) = true := by kernel_rfl
theorem ok : ConOk (116, c) := by
  intro fn hfn
  obtain rfl : Tryz.f116 = fn := Option.some.inj (fun_at.symm.trans hfn)
  refine contract_flat (n := 20) hgl (fun _ => flat) (fun ds r hh0 hr => ?_)
  rw [params] at hh0
  obtain ⟨p0, ds0, rfl, h0, hh1⟩ := hass_cons hh0
  obtain ⟨p0, rfl⟩ := has_str h0
  obtain ⟨p1, ds1, rfl, h1, hh2⟩ := hass_cons hh1
  obtain ⟨p1, rfl⟩ := has_str h1
  obtain rfl := hass_nil hh2
  refine ⟨e FUEL, DEPTH, tblOf (t FUEL), envOk (allCons F102.ok allNil) allNil, rfl, t_ok FUEL, ?_⟩
  rw [params, results]
  exact (run FUEL p0 p1).trans hr
end F116
end Go.AM.SZ
