/- Part 11 of the proof: the abstract machine, what the functions compute, and plain laws over that. -/
import Derived.Test.YtonknblidjpfeaaSo10
set_option linter.all false
set_option linter.unusedSimpArgs false
set_option linter.unusedVariables false
set_option linter.unusedSectionVars false
set_option linter.all false
set_option autoImplicit false
namespace Go.AM.SP
open Go Go.AM
def insI (x : Int) : List Int → List Int
  | [] => [x]
  | y :: l => cond (decide (x ≤ y)) (x :: y :: l) (y :: insI x l)
def isort : List Int → List Int
  | [] => []
  | x :: l => insI x (isort l)
theorem insI_perm (x : Int) : ∀ l : List Int, (insI x l).Perm (x :: l)
  | [] => .refl _
  | y :: l => by
    unfold insI
    cases h : decide (x ≤ y)
    · exact (List.Perm.cons y (insI_perm x l)).trans (List.Perm.swap x y l)
    · exact .refl _
theorem isort_perm : ∀ l : List Int, (isort l).Perm l
  | [] => .refl _
  | x :: l => (insI_perm x _).trans (List.Perm.cons x (isort_perm l))
theorem insI_sorted (x : Int) : ∀ l : List Int, l.Pairwise (· ≤ ·) → (insI x l).Pairwise (· ≤ ·)
  | [], _ => by simp [insI]
  | y :: l, h => by
    unfold insI
    cases hd : decide (x ≤ y)
    · have hxy : y ≤ x := by have := of_decide_eq_false hd; omega
      rw [List.pairwise_cons] at h
      refine List.pairwise_cons.2 ⟨?_, insI_sorted x l h.2⟩
      intro z hz
      have := (insI_perm x l).mem_iff.1 hz
      rcases List.mem_cons.1 this with rfl | h9
      · exact hxy
      · exact h.1 z h9
    · have hxy : x ≤ y := of_decide_eq_true hd
      refine List.pairwise_cons.2 ⟨?_, h⟩
      intro z hz
      rcases List.mem_cons.1 hz with rfl | h9
      · exact hxy
      · have := (List.pairwise_cons.1 h).1 z h9; omega
theorem isort_sorted : ∀ l : List Int, (isort l).Pairwise (· ≤ ·)
  | [] => .nil
  | x :: l => insI_sorted x _ (isort_sorted l)
theorem merge_sorted (l : List Int) : (l.mergeSort fun x y => decide (x ≤ y)).Pairwise (· ≤ ·) := by
  have h := List.pairwise_mergeSort (le := fun (x y : Int) => decide (x ≤ y)) (by intro a b c h1 h2; simp at *; omega) (by intro a b; simp; omega) l
  exact h.imp (by intro a b h; simpa using h)
theorem merge_isort (l : List Int) : (l.mergeSort fun x y => decide (x ≤ y)) = isort l := by
  refine List.Perm.eq_of_pairwise (le := (· ≤ ·)) ?_ (merge_sorted l) (isort_sorted l) ((List.mergeSort_perm _ _).trans (isort_perm l).symm)
  intro a b _ _ h1 h2; omega
def isortD (ds : List D) : List D := (isort (ds.map D.i)).map (D.int .i64)
theorem sortD_eq : sortD = isortD := by
  funext ds; unfold sortD isortD; rw [merge_isort]
theorem works_eq : F8.s FUEL = some (db true) := by
  unfold F8.s F17.s F15.s F18.s
  rw [sortD_eq]
  kernel_rfl
end Go.AM.SP
set_option linter.all false
set_option autoImplicit false
namespace Go.AM.SP
open Go Go.AM
structure Sp where
  (block at_ kind seq owner logic : Int) (text : ByteArray)
def Sp.enc (s : Sp) : D := da [di s.block, di s.at_, da [di s.kind, di s.seq, di s.owner, di s.logic, dS s.text]]
structure Ey where
  (logic owner block at_ : Int)
def Ey.enc (e : Ey) : D := da [di e.logic, di e.owner, di e.block, di e.at_]
structure Rt where
  (mn : Bool) (map : List Ey) (gn : Bool) (gone : List Int)
def Rt.enc (r : Rt) : D := da [dl r.mn (r.map.map Ey.enc), dl r.gn (r.gone.map (D.int .i64))]
def Sp.ok (s : Sp) : Prop := i64ok s.block ∧ i64ok s.at_ ∧ i64ok s.kind ∧ i64ok s.seq ∧ i64ok s.owner ∧ i64ok s.logic
def Ey.ok (e : Ey) : Prop := i64ok e.logic ∧ i64ok e.owner ∧ i64ok e.block ∧ i64ok e.at_
section
variable {α β : Type} [DecidableEq α]
end
theorem take_all {α : Type} {l : List α} : l.take l.length = l := List.take_of_length_le (Nat.le_refl _)
theorem few_ok (nn : Bool) (l : List Sp) : ∃ b : Bool, F9.s FUEL (dl nn (l.map Sp.enc)) = some (db b) ∧ (b = true → l.length ≤ 60 ∧ ∀ x ∈ l, x.text.size ≤ 230) := by
  unfold F9.s
  refine goS_rule (fun t : F9.S2 => ∃ k : Nat, t = ⟨dl nn (l.map Sp.enc), (k : Int)⟩ ∧ k ≤ l.length ∧ k ≤ 61 ∧ ∀ x ∈ l.take k, x.text.size ≤ 230) (fun t => 61 - t.i2.toNat) (fun o => ∃ b : Bool, o = some (db b) ∧ (b = true → l.length ≤ 60 ∧ ∀ x ∈ l, x.text.size ≤ 230)) ?_ _ _ ⟨0, rfl, by omega, by omega, by simp⟩ (by simp [FUEL])
  rintro _ rec ⟨k, rfl, hk, hk61, ht⟩ hrec
  simp only [F9.st2]
  by_cases h1 : k < l.length
  · by_cases h2 : k ≤ 60
    · have hx : ix (l.map Sp.enc) k = l[k].enc := ix_map h1
      have e1 : ltI (k : Int) (nI (dl nn (l.map Sp.enc)).elems.length) = true := by simp; omega
      have e2 : leI (k : Int) 60 = true := by simp; omega
      have e3 : inb (k : Int) (dl nn (l.map Sp.enc)).elems.length = true := by simp; omega
      rw [e1, e2, e3]
      have e4 : gtI (nI (((ix (dl nn (l.map Sp.enc)).elems (k : Int).toNat).at 2).at 4).s.size) 230 = decide (230 < l[k].text.size) := by
        show gtI (nI (((ix (l.map Sp.enc) k).at 2).at 4).s.size) 230 = _
        rw [hx]
        show gtI ((l[k].text.size : Nat) : Int) 230 = _
        simp [gtI]
        omega
      rw [e4]
      by_cases h3 : 230 < l[k].text.size
      · simp only [h3, decide_true, cond_true]
        exact ⟨false, rfl, by simp⟩
      · simp only [h3, decide_false, cond_true, cond_false]
        have hadd : ad .i64 (k : Int) 1 = ((k + 1 : Nat) : Int) := by rw [ad64 (by omega) (by omega)]; rfl
        rw [hadd]
        refine hrec _ ⟨k + 1, rfl, by omega, by omega, ?_⟩ (by simp; omega)
        intro x hx
        rw [List.take_succ_eq_append_getElem h1] at hx
        rcases List.mem_append.1 hx with h | h
        · exact ht x h
        · simp at h; subst h; omega
    · have e1 : ltI (k : Int) (nI (dl nn (l.map Sp.enc)).elems.length) = true := by simp; omega
      have e2 : leI (k : Int) 60 = false := by simp; omega
      rw [e1, e2]
      refine ⟨_, rfl, ?_⟩
      intro h; simp at h; omega
  · have e1 : ltI (k : Int) (nI (dl nn (l.map Sp.enc)).elems.length) = false := by simp; omega
    rw [e1]
    refine ⟨_, rfl, ?_⟩
    intro h
    simp at h
    refine ⟨by omega, ?_⟩
    rw [List.take_of_length_le (by omega)] at ht
    exact ht
end Go.AM.SP
set_option linter.all false
set_option autoImplicit false
namespace Go.AM.SP
open Go Go.AM
abbrev Key := Int × Int × Int × Int
def Sp.key (s : Sp) : Key := (s.block, s.at_, s.owner, s.logic)
def Ey.key (e : Ey) : Key := (e.block, e.at_, e.owner, e.logic)
end Go.AM.SP
set_option linter.all false
set_option autoImplicit false
namespace Go.AM.SP
open Go Go.AM
def ddg (p : Int) : List Int → List Int
  | [] => []
  | y :: ys => if y = p then ddg p ys else y :: ddg y ys
def dd : List Int → List Int
  | [] => []
  | x :: xs => x :: ddg x xs
theorem ddg_snoc (a b : Int) : ∀ (ys : List Int) (p : Int), ddg p (ys ++ [a, b]) = ddg p (ys ++ [a]) ++ (if b = a then [] else [b])
  | [], p => by
    by_cases h : a = p
    · subst h; by_cases h2 : b = a <;> simp [ddg, h2]
    · by_cases h2 : b = a <;> simp [ddg, h, h2]
  | y :: ys, p => by
    by_cases h : y = p
    · simp [ddg, h, ddg_snoc a b ys]
    · simp [ddg, h, ddg_snoc a b ys]
theorem dd_snoc (a b : Int) : ∀ ys : List Int, dd (ys ++ [a, b]) = dd (ys ++ [a]) ++ (if b = a then [] else [b])
  | [] => by by_cases h2 : b = a <;> simp [dd, ddg, h2]
  | y :: ys => by simp [dd, ddg_snoc]
theorem dd_take {xs : List Int} {n : Nat} (h1 : 1 ≤ n) (h2 : n < xs.length) : dd (xs.take (n + 1)) = dd (xs.take n) ++ (if xs[n] = xs[n - 1] then [] else [xs[n]]) := by
  obtain ⟨m, rfl⟩ : ∃ m, n = m + 1 := ⟨n - 1, by omega⟩
  have e1 : xs.take (m + 1) = xs.take m ++ [xs[m]] := List.take_succ_eq_append_getElem (by omega)
  have e2 : xs.take (m + 1 + 1) = xs.take m ++ [xs[m], xs[m + 1]] := by
    rw [List.take_succ_eq_append_getElem (by omega), e1, List.append_assoc]; rfl
  rw [e1, e2, dd_snoc]; simp
theorem ix_map' {xs : List Int} {tl : List D} {j : Nat} (h : j < xs.length) : ix (xs.map (D.int .i64) ++ tl) j = di xs[j] := by
  rw [ix_eq (by simp; omega)]
  rw [List.getElem_append_left (by simpa using h)]; simp
theorem ix_set_ne {l : List D} {a j : Nat} {v : D} (h : a ≠ j) : ix (l.set a v) j = ix l j := by
  simp [ix, List.getD_eq_getElem?_getD, List.getElem?_set, h]
theorem take_set_succ {l : List D} {a : Nat} {v : D} (h : a < l.length) : (l.set a v).take (a + 1) = l.take a ++ [v] := by
  rw [List.take_succ_eq_append_getElem (by simpa using h)]
  simp [List.take_set_of_le]
theorem dd_short {xs : List Int} (h : xs.length < 2) : dd xs = xs := by
  match xs, h with
  | [], _ => rfl
  | [x], _ => rfl
section
variable {S S9 X X9 : Type} {M : Nat}
theorem compact_in {st : S9 → (S9 → Option D) → (X9 → Option D) → Option D} {mk : Nat → Nat → Int → Nat → Nat → Int → List D → S9} {ex : Nat → Nat → Int → List D → X9}
    (h : ∀ n1 n2 i n3 n4 j l rec K, st (mk n1 n2 i n3 n4 j l) rec K = (cond (ltI j (nI n4)) (cond (inb j n4) (cond (inb (sb .i64 j 1) n4) (cond (neI (ix l (n3 + j.toNat)).i (ix l (n3 + (sb .i64 j 1).toNat)).i) (cond (inb j n4) (cond (inb i n2) (rec (mk n1 n2 (ad .i64 i 1) n3 n4 (ad .i64 j 1) (l.set (n1 + i.toNat) (ix l (n3 + j.toNat))))) none) none) (rec (mk n1 n2 i n3 n4 (ad .i64 j 1) l))) none) none) (K (ex n1 n2 i l))))
    {xs : List Int} {L k : Nat} (hL : xs.length ≤ L) (hx : xs.length ≤ 1048576) (hM : 1048576 ≤ M) (K : X9 → Option D) (l0 : List D) (hl0 : l0.length = L)
    (hk1 : 1 ≤ k) (hk : k < xs.length) (h0 : ∀ j, k ≤ j → (hj : j < xs.length) → ix l0 j = di xs[j]) (ht : l0.take k = (dd (xs.take (k + 1))).map (D.int .i64)) :
    ∃ (a : Nat) (l : List D), a ≤ xs.length ∧ l.length = L ∧ l.take a = (dd xs).map (D.int .i64) ∧ goS st M (mk 0 xs.length k k (xs.length - k) 1 l0) K = K (ex 0 xs.length a l) := by
  have gen : ∀ N (a b : Nat) (l : List D), xs.length - k - b ≤ N → 1 ≤ b → b ≤ xs.length - k → a < k + b → l.length = L →
      (∀ j, k + b - 1 ≤ j → (hj : j < xs.length) → ix l j = di xs[j]) → l.take a = (dd (xs.take (k + b))).map (D.int .i64) →
      ∃ (a' : Nat) (l' : List D), a' ≤ xs.length ∧ l'.length = L ∧ l'.take a' = (dd xs).map (D.int .i64) ∧ goS st N (mk 0 xs.length a k (xs.length - k) b l) K = K (ex 0 xs.length a' l') := by
    intro N
    induction N with
    | zero =>
      intro a b l hN hb1 hb2 hab hl hix hta
      have hb : b = xs.length - k := by omega
      subst hb
      refine ⟨a, l, by omega, hl, ?_, ?_⟩
      · rw [hta, show k + (xs.length - k) = xs.length by omega, take_all]
      · simp only [goS]
        rw [h]
        exact cf (by simp) rfl
    | succ N ih =>
      intro a b l hN hb1 hb2 hab hl hix hta
      by_cases hb : b = xs.length - k
      · subst hb
        refine ⟨a, l, by omega, hl, ?_, ?_⟩
        · rw [hta, show k + (xs.length - k) = xs.length by omega, take_all]
        · simp only [goS]
          rw [h]
          exact cf (by simp) rfl
      · have hsb : sb .i64 (b : Int) 1 = ((b - 1 : Nat) : Int) := by rw [sb64 (by omega) (by omega)]; omega
        have hadd : ∀ c : Nat, c ≤ 1048576 → ad .i64 (c : Int) 1 = ((c + 1 : Nat) : Int) := by intro c hc; rw [ad64 (by omega) (by omega)]; rfl
        have x1 : ix l (k + b) = di xs[k + b] := hix _ (by omega) (by omega)
        have x2 : ix l (k + (b - 1)) = di xs[k + b - 1] := by
          have := hix (k + b - 1) (by omega) (by omega)
          rwa [show k + (b - 1) = k + b - 1 by omega]
        have hdd := dd_take (xs := xs) (n := k + b) (by omega) (by omega)
        have hlen : a ≤ xs.length := by omega
        by_cases hne : xs[k + b] = xs[k + b - 1]
        · obtain ⟨a', l', r1, r2, r3, r4⟩ := ih a (b + 1) l (by omega) (by omega) (by omega) (by omega) hl (fun j hj hj' => hix j (by omega) hj') (by rw [hta, show k + (b + 1) = k + b + 1 by omega, hdd]; simp [hne])
          refine ⟨a', l', r1, r2, r3, ?_⟩
          simp only [goS]
          rw [h]
          refine ct (by simp; omega) (ct (by simp; omega) (ct (by rw [hsb]; simp; omega) (cf ?_ ?_)))
          · rw [hsb, Int.toNat_natCast, Int.toNat_natCast, x1, x2]; simp [hne]
          · rw [hadd b (by omega)]; exact r4
        · obtain ⟨a', l', r1, r2, r3, r4⟩ := ih (a + 1) (b + 1) (l.set a (di xs[k + b])) (by omega) (by omega) (by omega) (by omega) (by simpa using hl) (fun j hj hj' => by rw [ix_set_ne (by omega)]; exact hix j (by omega) hj') (by rw [take_set_succ (by omega), hta, show k + (b + 1) = k + b + 1 by omega, hdd]; simp [hne])
          refine ⟨a', l', r1, r2, r3, ?_⟩
          simp only [goS]
          rw [h]
          refine ct (by simp; omega) (ct (by simp; omega) (ct (by rw [hsb]; simp; omega) (ct ?_ (ct (by simp; omega) (ct (by simp; omega) ?_)))))
          · rw [hsb, Int.toNat_natCast, Int.toNat_natCast, x1, x2]; simp [hne]
          · rw [hadd b (by omega), hadd a (by omega), Int.toNat_natCast, Int.toNat_natCast, x1, Nat.zero_add]; exact r4
  exact gen M k 1 l0 (by omega) (by omega) (by omega) (by omega) hl0 (fun j hj hj' => h0 j (by omega) hj') ht
theorem compact_out {st9 : S9 → (S9 → Option D) → (X9 → Option D) → Option D} {mk9 : Nat → Nat → Int → Nat → Nat → Int → List D → S9} {ex9 : Nat → Nat → Int → List D → X9}
    {st : S → (S → Option D) → (X → Option D) → Option D} {mk : Nat → Nat → Int → List D → S} {ex0 : Nat → Nat → Int → List D → X} {ex1 : Nat → Nat → List D → X}
    (h9 : ∀ n1 n2 i n3 n4 j l rec K, st9 (mk9 n1 n2 i n3 n4 j l) rec K = (cond (ltI j (nI n4)) (cond (inb j n4) (cond (inb (sb .i64 j 1) n4) (cond (neI (ix l (n3 + j.toNat)).i (ix l (n3 + (sb .i64 j 1).toNat)).i) (cond (inb j n4) (cond (inb i n2) (rec (mk9 n1 n2 (ad .i64 i 1) n3 n4 (ad .i64 j 1) (l.set (n1 + i.toNat) (ix l (n3 + j.toNat))))) none) none) (rec (mk9 n1 n2 i n3 n4 (ad .i64 j 1) l))) none) none) (K (ex9 n1 n2 i l))))
    (h : ∀ K, ∃ K9 : X9 → Option D, (∀ n1 n2 i l rec, st (mk n1 n2 i l) rec K = (cond (ltI i (nI n2)) (cond (inb i n2) (cond (inb (sb .i64 i 1) n2) (cond (eqI (ix l (n1 + i.toNat)).i (ix l (n1 + (sb .i64 i 1).toNat)).i) (cond ((leI 0 i) && (leI i (nI n2)) && (leN (n1 + n2) l.length)) (goS st9 M (mk9 n1 n2 i (n1 + i.toNat) (n2 - i.toNat) 1 l) K9) none) (rec (mk n1 n2 (ad .i64 i 1) l))) none) none) (K (ex1 n1 n2 l)))) ∧
      ∀ n1 n2 i l, K9 (ex9 n1 n2 i l) = (cond ((leI 0 i) && (leI i (nI n2)) && (leN (n1 + n2) l.length)) (cond (true && (leI 0 i) && (leN (n1 + i.toNat) (ap (ap (l.take (n1 + i.toNat)) (rp (n2 - i.toNat) (di 0))) (l.drop ((n1 + i.toNat) + (n2 - i.toNat)))).length)) (K (ex0 n1 n2 i l)) none) none))
    {xs : List Int} (hx : xs.length ≤ 1048576) (hM : 1048576 ≤ M) (tl : List D) (h2 : 1 ≤ xs.length) (K : X → Option D) :
    (∃ (a : Nat) (l : List D), a ≤ xs.length ∧ l.length = xs.length + tl.length ∧ l.take a = (dd xs).map (D.int .i64) ∧ goS st M (mk 0 xs.length 1 (xs.map (D.int .i64) ++ tl)) K = K (ex0 0 xs.length a l)) ∨
    (dd xs = xs ∧ goS st M (mk 0 xs.length 1 (xs.map (D.int .i64) ++ tl)) K = K (ex1 0 xs.length (xs.map (D.int .i64) ++ tl))) := by
  obtain ⟨K9, hs, hk9⟩ := h K
  generalize hl0 : xs.map (D.int .i64) ++ tl = l0
  have hlen0 : l0.length = xs.length + tl.length := by rw [← hl0]; simp
  have hix : ∀ j, (hj : j < xs.length) → ix l0 j = di xs[j] := by intro j hj; rw [← hl0]; exact ix_map' hj
  have htk : ∀ k, k ≤ xs.length → l0.take k = (xs.take k).map (D.int .i64) := by
    intro k hk
    rw [← hl0, List.take_append_of_le_length (by simpa using hk), List.map_take]
  have gen : ∀ N (k : Nat), xs.length - k ≤ N → 1 ≤ k → k ≤ xs.length → dd (xs.take k) = xs.take k →
      (∃ (a : Nat) (l : List D), a ≤ xs.length ∧ l.length = xs.length + tl.length ∧ l.take a = (dd xs).map (D.int .i64) ∧ goS st N (mk 0 xs.length k l0) K = K (ex0 0 xs.length a l)) ∨
      (dd xs = xs ∧ goS st N (mk 0 xs.length k l0) K = K (ex1 0 xs.length l0)) := by
    intro N
    have base : ∀ N, dd (xs.take xs.length) = xs.take xs.length → (dd xs = xs ∧ goS st N (mk 0 xs.length xs.length l0) K = K (ex1 0 xs.length l0)) := by
      intro N hd
      rw [take_all] at hd
      refine ⟨hd, ?_⟩
      cases N <;> (simp only [goS]; rw [hs]; exact cf (by simp) rfl)
    induction N with
    | zero =>
      intro k hN hk1 hk hd
      have : k = xs.length := by omega
      subst this
      exact .inr (base _ hd)
    | succ N ih =>
      intro k hN hk1 hk hd
      by_cases hkl : k = xs.length
      · subst hkl
        exact .inr (base _ hd)
      · have hsb : sb .i64 (k : Int) 1 = ((k - 1 : Nat) : Int) := by rw [sb64 (by omega) (by omega)]; omega
        have hadd : ad .i64 (k : Int) 1 = ((k + 1 : Nat) : Int) := by rw [ad64 (by omega) (by omega)]; rfl
        have x1 : ix l0 k = di xs[k] := hix _ (by omega)
        have x2 : ix l0 (k - 1) = di xs[k - 1] := hix _ (by omega)
        have hdd := dd_take (xs := xs) (n := k) (by omega) (by omega)
        simp only [goS]
        rw [hs, hsb, hadd, Int.toNat_natCast, Int.toNat_natCast, Nat.zero_add, Nat.zero_add, x1, x2]
        have e1 : ltI (k : Int) (nI xs.length) = true := by simp; omega
        have e2 : inb (k : Int) xs.length = true := by simp; omega
        have e3 : inb ((k - 1 : Nat) : Int) xs.length = true := by simp; omega
        rw [e1, e2, e3]
        simp only [cond_true]
        by_cases hne : xs[k] = xs[k - 1]
        · have e4 : eqI (di xs[k]).i (di xs[k - 1]).i = true := by simp [hne]
          have e5 : ((leI 0 (k : Int)) && (leI (k : Int) (nI xs.length)) && (leN (0 + xs.length) l0.length)) = true := by simp; omega
          rw [e4, e5]
          simp only [cond_true]
          obtain ⟨a, l, r1, r2, r3, r4⟩ := compact_in h9 (L := xs.length + tl.length) (k := k) (by omega) hx hM K9 l0 hlen0 (by omega) (by omega) (fun j _ hj => hix j hj) (by rw [hdd, hd, htk k (by omega)]; simp [hne])
          refine .inl ⟨a, l, r1, r2, r3, ?_⟩
          rw [r4, hk9]
          refine ct (by simp; omega) (ct ?_ rfl)
          simp [ap, rp]
          omega
        · have e4 : eqI (di xs[k]).i (di xs[k - 1]).i = false := by simp [hne]
          rw [e4]
          simp only [cond_false]
          refine ih (k + 1) (by omega) (by omega) (by omega) ?_
          rw [hdd, hd, List.take_succ_eq_append_getElem (by omega)]; simp [hne]
  exact gen M 1 (by omega) (by omega) (by omega) (dd_short (by simp; omega))
def odd (b : Int) : Bool := decide (b < 0) || decide (64 ≤ b)
theorem odd_ok (b : Int) : F38.s FUEL b = some (db (odd b)) := by
  unfold F38.s odd
  by_cases h : b < 0
  · simp [ltI, h]
  · simp [ltI, geI, h]
theorem index_ok {st : S → (S → Option D) → (X → Option D) → Option D} {mk : Nat → Nat → Int → Int → List D → S} {ex0 : Int → List D → X} {ex1 : List D → X}
    (h : ∀ n m i j l rec K, st (mk n m i j l) rec K = (cond (ltI j i) (cond (inb j m) (bd (F38.s FUEL (ix l (n + j.toNat)).i) fun r => (cond r.b (K (ex0 j l)) (rec (mk n m i (ad .i64 j 1) l)))) none) (K (ex1 l))))
    {xs : List Int} (hx : xs.length ≤ 1048576) (hM : 1048576 ≤ M) (K : X → Option D) :
    (∃ k : Nat, ∃ hk : k < xs.length, odd xs[k] = true ∧ (xs.take k).filter (fun b => !odd b) = xs.take k ∧ goS st M (mk 0 xs.length xs.length 0 (xs.map (D.int .i64))) K = K (ex0 k (xs.map (D.int .i64)))) ∨
    (xs.filter (fun b => !odd b) = xs ∧ goS st M (mk 0 xs.length xs.length 0 (xs.map (D.int .i64))) K = K (ex1 (xs.map (D.int .i64)))) := by
  have gen : ∀ N (k : Nat), xs.length - k ≤ N → k ≤ xs.length → (xs.take k).filter (fun b => !odd b) = xs.take k →
      (∃ k' : Nat, ∃ hk : k' < xs.length, odd xs[k'] = true ∧ (xs.take k').filter (fun b => !odd b) = xs.take k' ∧ goS st N (mk 0 xs.length xs.length k (xs.map (D.int .i64))) K = K (ex0 k' (xs.map (D.int .i64)))) ∨
      (xs.filter (fun b => !odd b) = xs ∧ goS st N (mk 0 xs.length xs.length k (xs.map (D.int .i64))) K = K (ex1 (xs.map (D.int .i64)))) := by
    intro N
    have base : ∀ N, (xs.take xs.length).filter (fun b => !odd b) = xs.take xs.length → (xs.filter (fun b => !odd b) = xs ∧ goS st N (mk 0 xs.length xs.length xs.length (xs.map (D.int .i64))) K = K (ex1 (xs.map (D.int .i64)))) := by
      intro N hd
      rw [take_all] at hd
      refine ⟨hd, ?_⟩
      cases N <;> (simp only [goS]; rw [h]; exact cf (by simp) rfl)
    induction N with
    | zero =>
      intro k hN hk hd
      have : k = xs.length := by omega
      subst this
      exact .inr (base _ hd)
    | succ N ih =>
      intro k hN hk hd
      by_cases hkl : k = xs.length
      · subst hkl
        exact .inr (base _ hd)
      · have hadd : ad .i64 (k : Int) 1 = ((k + 1 : Nat) : Int) := by rw [ad64 (by omega) (by omega)]; rfl
        have x1 : ix (xs.map (D.int .i64)) k = di xs[k] := ix_map (by omega)
        simp only [goS]
        rw [h, hadd, Int.toNat_natCast, Nat.zero_add, x1]
        have e1 : ltI (k : Int) (xs.length : Int) = true := by simp; omega
        have e2 : inb (k : Int) xs.length = true := by simp; omega
        rw [e1, e2]
        simp only [cond_true, i_int, odd_ok, bd, b_bool]
        cases ho : odd xs[k]
        · simp only [cond_false]
          refine ih (k + 1) (by omega) (by omega) ?_
          rw [List.take_succ_eq_append_getElem (by omega), List.filter_append, hd]; simp [ho]
        · exact .inl ⟨k, by omega, ho, hd, rfl⟩
  exact gen M 0 (by omega) (by omega) (by simp)
theorem delete_ok {st : S → (S → Option D) → (X → Option D) → Option D} {mk : Nat → Nat → Int → Int → List D → S} {ex : Nat → Nat → Int → List D → X}
    (h : ∀ n m i j l rec K, st (mk n m i j l) rec K = (cond (ltI j (nI m)) (cond (inb j m) (bd (F38.s FUEL (ix l (n + j.toNat)).i) fun r => (cond (!r.b) (cond (inb i m) (rec (mk n m (ad .i64 i 1) (ad .i64 j 1) (l.set (n + i.toNat) (ix l (n + j.toNat))))) none) (rec (mk n m i (ad .i64 j 1) l)))) none) (K (ex n m i l))))
    {xs : List Int} (hx : xs.length ≤ 1048576) (hM : 1048576 ≤ M) (K : X → Option D) {k : Nat} (hk : k < xs.length) (ho : odd xs[k] = true) (hf : (xs.take k).filter (fun b => !odd b) = xs.take k) :
    ∃ (a : Nat) (l : List D), a ≤ xs.length ∧ l.length = xs.length ∧ l.take a = (xs.filter (fun b => !odd b)).map (D.int .i64) ∧ goS st M (mk 0 xs.length k (ad .i64 k 1) (xs.map (D.int .i64))) K = K (ex 0 xs.length a l) := by
  have hadd : ∀ c : Nat, c ≤ 1048576 → ad .i64 (c : Int) 1 = ((c + 1 : Nat) : Int) := by intro c hc; rw [ad64 (by omega) (by omega)]; rfl
  have gen : ∀ N (a b : Nat) (l : List D), xs.length - b ≤ N → a < b → b ≤ xs.length → l.length = xs.length → (∀ j, b ≤ j → (hj : j < xs.length) → ix l j = di xs[j]) →
      l.take a = ((xs.take b).filter (fun b => !odd b)).map (D.int .i64) →
      ∃ (a' : Nat) (l' : List D), a' ≤ xs.length ∧ l'.length = xs.length ∧ l'.take a' = (xs.filter (fun b => !odd b)).map (D.int .i64) ∧ goS st N (mk 0 xs.length a b l) K = K (ex 0 xs.length a' l') := by
    intro N
    have base : ∀ N (a : Nat) (l : List D), a < xs.length → l.length = xs.length → l.take a = ((xs.take xs.length).filter (fun b => !odd b)).map (D.int .i64) →
        ∃ (a' : Nat) (l' : List D), a' ≤ xs.length ∧ l'.length = xs.length ∧ l'.take a' = (xs.filter (fun b => !odd b)).map (D.int .i64) ∧ goS st N (mk 0 xs.length a xs.length l) K = K (ex 0 xs.length a' l') := by
      intro N a l ha hl ht
      rw [take_all] at ht
      refine ⟨a, l, by omega, hl, ht, ?_⟩
      cases N <;> (simp only [goS]; rw [h]; exact cf (by simp) rfl)
    induction N with
    | zero =>
      intro a b l hN hab hb hl hix ht
      have : b = xs.length := by omega
      subst this
      exact base _ a l hab hl ht
    | succ N ih =>
      intro a b l hN hab hb hl hix ht
      by_cases hbl : b = xs.length
      · subst hbl
        exact base _ a l hab hl ht
      · have x1 := hix b (by omega) (by omega)
        simp only [goS]
        rw [h, hadd b (by omega), hadd a (by omega), Int.toNat_natCast, Int.toNat_natCast, Nat.zero_add, Nat.zero_add, x1]
        have e1 : ltI (b : Int) (nI xs.length) = true := by simp; omega
        have e2 : inb (b : Int) xs.length = true := by simp; omega
        have e3 : inb (a : Int) xs.length = true := by simp; omega
        rw [e1, e2, e3]
        simp only [cond_true, i_int, odd_ok, bd, b_bool]
        have hstep : (xs.take (b + 1)).filter (fun b => !odd b) = (xs.take b).filter (fun b => !odd b) ++ (if odd xs[b] then [] else [xs[b]]) := by
          rw [List.take_succ_eq_append_getElem (by omega), List.filter_append]
          cases ho9 : odd xs[b] <;> simp [ho9]
        cases ho : odd xs[b]
        · simp only [Bool.not_false, cond_true]
          rw [ho] at hstep
          exact ih (a + 1) (b + 1) _ (by omega) (by omega) (by omega) (by simpa using hl) (fun j hj hj' => by rw [ix_set_ne (by omega)]; exact hix j (by omega) hj') (by rw [take_set_succ (by omega), ht, hstep]; simp)
        · simp only [Bool.not_true, cond_false]
          rw [ho] at hstep
          exact ih a (b + 1) l (by omega) (by omega) (by omega) hl (fun j hj hj' => hix j (by omega) hj') (by rw [ht, hstep]; simp)
  rw [hadd k (by omega)]
  refine gen M k (k + 1) _ (by omega) (by omega) (by omega) (by simp) (fun j _ hj => ix_map hj) ?_
  rw [List.take_succ_eq_append_getElem (by omega), List.filter_append, hf, ← List.map_take]; simp [ho]
end
end Go.AM.SP
set_option linter.all false
set_option autoImplicit false
namespace Go.AM.SP
open Go Go.AM
def blocksOf (xs : List Int) : List Int := dd (isort (xs.filter fun b => !odd b))
theorem isort_len (l : List Int) : (isort l).length = l.length := (isort_perm l).length_eq
theorem sortD_ints (xs : List Int) : sortD (xs.map (D.int .i64)) = (isort xs).map (D.int .i64) := by
  rw [sortD_eq]; unfold isortD
  congr 2
  rw [List.map_map]; exact List.map_id'' (fun _ => rfl) xs
theorem take_app {xs : List Int} {n : Nat} {tl : List D} (h : n = xs.length) : (xs.map (D.int .i64) ++ tl).take n = xs.map (D.int .i64) := by
  subst h; rw [List.take_append_of_le_length (by simp), List.take_of_length_le (by simp)]
def ownX (l : List Sp) (o : Int) : List Int := (l.filter fun s => s.kind == 0 && s.owner == o).map Sp.block
theorem F15_last (b : Bool) {s : List Int} (hs : s.length ≤ 1048576) (tl : List D) (h2 : 1 ≤ s.length) (K : F15.X29_4 → Option D) (R : Option D)
    (h0 : ∀ (a : Nat) l, a ≤ s.length → l.length = s.length + tl.length → l.take a = (dd s).map (D.int .i64) → K (.e0 0 s.length (a : Int) b l) = R)
    (h1 : dd s = s → K (.e1 0 s.length b (s.map (D.int .i64) ++ tl)) = R) : goS (F15.st29_4 FUEL) FUEL ⟨0, s.length, 1, b, s.map (D.int .i64) ++ tl⟩ K = R := by
  rcases compact_out (st9 := F15.st29_9 FUEL) (st := F15.st29_4 FUEL) (mk9 := (fun n1 n2 i n3 n4 j l => ⟨n1, n2, i, n3, n4, j, b, l⟩)) (ex9 := (fun n m i l => .e0 n m i b l)) (mk := (fun n1 n2 i l => ⟨n1, n2, i, b, l⟩)) (ex0 := (fun n m i l => .e0 n m i b l)) (ex1 := (fun n m l => .e1 n m b l)) (fun _ _ _ _ _ _ _ _ _ => rfl) (fun K => ⟨_, fun _ _ _ _ _ => rfl, fun _ _ _ _ => rfl⟩) hs (by simp [FUEL]) tl h2 K with ⟨a, l, r1, r2, r3, r4⟩ | ⟨r1, r2⟩
  · exact r4.trans (h0 a l r1 r2 r3)
  · exact r2.trans (h1 r1)
theorem F15_tail (b : Bool) (xs : List Int) (hx : xs.length ≤ 1048576) : (goS (F15.st55_2 FUEL) FUEL ⟨0, xs.length, (nI xs.length), 0, b, xs.map (D.int .i64)⟩ (fun x : F15.X55_2 => match x with | .e0 i12 b13 l14 => (cond (eqI i12 (-1)) (cond (true && (mx xs.length)) (cond (ltI (nI xs.length) 2) (some (dl b13 (((ap (ap (l14.take 0) (sortD ((l14.drop 0).take xs.length))) (l14.drop (0 + xs.length))).drop 0).take xs.length))) (goS (F15.st29_4 FUEL) FUEL ⟨0, xs.length, 1, b13, (ap (ap (l14.take 0) (sortD ((l14.drop 0).take xs.length))) (l14.drop (0 + xs.length)))⟩ fun x => match x with | .e0 n21 n22 i23 b27 l28 => (some (dl b27 (((ap (ap (l28.take (n21 + i23.toNat)) (rp (n22 - i23.toNat) (di 0))) (l28.drop ((n21 + i23.toNat) + (n22 - i23.toNat)))).drop (n21 + 0)).take (i23.toNat - 0)))) | .e1 n16 n17 b19 l20 => (some (dl b19 ((l20.drop n16).take n17))))) none) (goS (F15.st37_5 FUEL) FUEL ⟨0, xs.length, i12, (ad .i64 i12 1), b13, l14⟩ fun x => match x with | .e0 n29 n30 i31 b33 l34 => (cond ((leI 0 i31) && (leI i31 (nI n30)) && (leN (n29 + n30) l34.length)) (cond (true && (leI 0 i31) && (leN (n29 + i31.toNat) (ap (ap (l34.take (n29 + i31.toNat)) (rp (n30 - i31.toNat) (di 0))) (l34.drop ((n29 + i31.toNat) + (n30 - i31.toNat)))).length)) (cond (true && (mx (i31.toNat - 0))) (cond (ltI (nI (i31.toNat - 0)) 2) (some (dl b33 (((ap (ap ((ap (ap (l34.take (n29 + i31.toNat)) (rp (n30 - i31.toNat) (di 0))) (l34.drop ((n29 + i31.toNat) + (n30 - i31.toNat)))).take (n29 + 0)) (sortD (((ap (ap (l34.take (n29 + i31.toNat)) (rp (n30 - i31.toNat) (di 0))) (l34.drop ((n29 + i31.toNat) + (n30 - i31.toNat)))).drop (n29 + 0)).take (i31.toNat - 0)))) ((ap (ap (l34.take (n29 + i31.toNat)) (rp (n30 - i31.toNat) (di 0))) (l34.drop ((n29 + i31.toNat) + (n30 - i31.toNat)))).drop ((n29 + 0) + (i31.toNat - 0)))).drop (n29 + 0)).take (i31.toNat - 0)))) (goS (F15.st29_4 FUEL) FUEL ⟨(n29 + 0), (i31.toNat - 0), 1, b33, (ap (ap ((ap (ap (l34.take (n29 + i31.toNat)) (rp (n30 - i31.toNat) (di 0))) (l34.drop ((n29 + i31.toNat) + (n30 - i31.toNat)))).take (n29 + 0)) (sortD (((ap (ap (l34.take (n29 + i31.toNat)) (rp (n30 - i31.toNat) (di 0))) (l34.drop ((n29 + i31.toNat) + (n30 - i31.toNat)))).drop (n29 + 0)).take (i31.toNat - 0)))) ((ap (ap (l34.take (n29 + i31.toNat)) (rp (n30 - i31.toNat) (di 0))) (l34.drop ((n29 + i31.toNat) + (n30 - i31.toNat)))).drop ((n29 + 0) + (i31.toNat - 0))))⟩ fun x => match x with | .e0 n21 n22 i23 b27 l28 => (some (dl b27 (((ap (ap (l28.take (n21 + i23.toNat)) (rp (n22 - i23.toNat) (di 0))) (l28.drop ((n21 + i23.toNat) + (n22 - i23.toNat)))).drop (n21 + 0)).take (i23.toNat - 0)))) | .e1 n16 n17 b19 l20 => (some (dl b19 ((l20.drop n16).take n17))))) none) none) none))) | .e1 b13 l14 => (cond (true && (mx xs.length)) (cond (ltI (nI xs.length) 2) (some (dl b13 (((ap (ap (l14.take 0) (sortD ((l14.drop 0).take xs.length))) (l14.drop (0 + xs.length))).drop 0).take xs.length))) (goS (F15.st29_4 FUEL) FUEL ⟨0, xs.length, 1, b13, (ap (ap (l14.take 0) (sortD ((l14.drop 0).take xs.length))) (l14.drop (0 + xs.length)))⟩ fun x => match x with | .e0 n21 n22 i23 b27 l28 => (some (dl b27 (((ap (ap (l28.take (n21 + i23.toNat)) (rp (n22 - i23.toNat) (di 0))) (l28.drop ((n21 + i23.toNat) + (n22 - i23.toNat)))).drop (n21 + 0)).take (i23.toNat - 0)))) | .e1 n16 n17 b19 l20 => (some (dl b19 ((l20.drop n16).take n17))))) none))) = some (dl b ((blocksOf xs).map (D.int .i64))) := by
  rcases index_ok (st := F15.st55_2 FUEL) (mk := (fun n m i j l => ⟨n, m, i, j, b, l⟩)) (ex0 := (fun j l => .e0 j b l)) (ex1 := (fun l => .e1 b l)) (fun _ _ _ _ _ _ _ => rfl) hx (M := FUEL) (by simp [FUEL]) _ with ⟨k, hk, ho, hf, e⟩ | ⟨hf, e⟩
  · refine e.trans ?_
    refine cf (by simp <;> omega) ?_
    obtain ⟨a, l, r1, r2, r3, r4⟩ := delete_ok (st := F15.st37_5 FUEL) (mk := (fun n m i j l => ⟨n, m, i, j, b, l⟩)) (ex := (fun n m i l => .e0 n m i b l)) (fun _ _ _ _ _ _ _ => rfl) hx (M := FUEL) (by simp [FUEL]) _ hk ho hf
    refine r4.trans ?_
    have hY : (xs.filter fun b => !odd b).length = a := by
      have := congrArg List.length r3
      simp at this; rw [← this]; omega
    generalize hYd : (xs.filter fun b => !odd b) = Y at r3 hY
    refine ct (by simp; omega) (ct (by simp [ap, rp]; omega) (ct (by simp; omega) ?_))
    have hb : blocksOf xs = dd (isort Y) := by rw [blocksOf, hYd]
    rw [hb]
    simp only [Nat.zero_add, Nat.sub_zero, Int.toNat_natCast, List.drop_zero, List.take_zero]
    have t1 : (ap (ap (l.take a) (rp (xs.length - a) (di 0))) (l.drop (a + (xs.length - a)))).take a = Y.map (D.int .i64) := by
      rw [r3]
      unfold ap
      rw [List.append_assoc, take_app (by omega)]
    rw [t1, sortD_ints]
    generalize (ap (ap (l.take a) (rp (xs.length - a) (di 0))) (l.drop (a + (xs.length - a)))).drop a = tl
    have e0 : ap (ap [] ((isort Y).map (D.int .i64))) tl = (isort Y).map (D.int .i64) ++ tl := rfl
    rw [e0]
    have hl : a = (isort Y).length := by rw [isort_len]; omega
    rw [hl]
    cases h2 : ltI (nI (isort Y).length) 2
    · have h2' : 2 ≤ (isort Y).length := by simp at h2; omega
      refine F15_last _ (by rw [← hl]; omega) tl (by omega) _ _ ?_ ?_
      · intro a' l' g1 g2 g3
        simp only [Nat.zero_add, Nat.sub_zero, Int.toNat_natCast, List.drop_zero]
        rw [g3]
        unfold ap
        rw [List.append_assoc, take_app (by have := congrArg List.length g3; simp at this; omega)]
      · intro g
        simp only [List.drop_zero]
        rw [take_app rfl, g]
    · have h2' : (isort Y).length < 2 := by simp at h2; omega
      simp only [cond_true]
      rw [take_app rfl, dd_short h2']
  · refine e.trans ?_
    refine ct (by simp; omega) ?_
    have hb : blocksOf xs = dd (isort xs) := by rw [blocksOf, hf]
    rw [hb]
    simp only [Nat.zero_add, List.drop_zero, List.take_zero]
    rw [show (xs.map (D.int .i64)).take xs.length = xs.map (D.int .i64) from List.take_of_length_le (by simp), sortD_ints, show (xs.map (D.int .i64)).drop xs.length = [] from List.drop_of_length_le (by simp)]
    have e0 : ap (ap [] ((isort xs).map (D.int .i64))) [] = (isort xs).map (D.int .i64) ++ [] := rfl
    rw [e0]
    have hl : xs.length = (isort xs).length := by rw [isort_len]
    rw [hl]
    cases h2 : ltI (nI (isort xs).length) 2
    · have h2' : 2 ≤ (isort xs).length := by simp at h2; omega
      refine F15_last _ (by rw [← hl]; omega) [] (by omega) _ _ ?_ ?_
      · intro a' l' g1 g2 g3
        simp only [Nat.zero_add, Nat.sub_zero, Int.toNat_natCast, List.drop_zero]
        rw [g3]
        unfold ap
        rw [List.append_assoc, take_app (by have := congrArg List.length g3; simp at this; omega)]
      · intro g
        simp only [List.drop_zero]
        rw [take_app rfl, g]
    · have h2' : (isort xs).length < 2 := by simp at h2; omega
      simp only [cond_true]
      rw [take_app rfl, dd_short h2']
theorem ownX_len (l : List Sp) (o : Int) : (ownX l o).length ≤ l.length := by
  unfold ownX
  rw [List.length_map]
  exact List.length_filter_le _ _
theorem F15_head (nn : Bool) (l : List Sp) (o : Int) (hl : l.length ≤ 1048576) (K : F15.X3 → Option D) : ∃ b, goS (F15.st3 FUEL) FUEL ⟨o, 0, 0, dl nn (l.map Sp.enc), (nI (l.map Sp.enc).length), 0, false, []⟩ K = K (.e0 0 (ownX l o).length b ((ownX l o).map (D.int .i64))) := by
  have hlen : ∀ k, (ownX (l.take k) o).length ≤ l.length := by
    intro k
    refine Nat.le_trans (ownX_len _ _) ?_
    rw [List.length_take]; omega
  refine goS_rule (fun t : F15.S3 => ∃ (k : Nat) (b : Bool), t = ⟨o, 0, (ownX (l.take k) o).length, dl nn (l.map Sp.enc), (l.length : Int), (k : Int), b, (ownX (l.take k) o).map (D.int .i64)⟩ ∧ k ≤ l.length) (fun t => l.length - t.i6.toNat) (fun R => ∃ b, R = K (.e0 0 (ownX l o).length b ((ownX l o).map (D.int .i64)))) ?_ _ _ ⟨0, false, by simp [ownX], by omega⟩ (by simp [FUEL]; omega)
  rintro _ rec ⟨k, b, rfl, hk⟩ hrec
  simp only [F15.st3]
  by_cases h1 : k < l.length
  · have hx : ix (dl nn (l.map Sp.enc)).elems (k : Int).toNat = l[k].enc := ix_map h1
    have e1 : ltI (k : Int) (l.length : Int) = true := by simp; omega
    have e3 : inb (k : Int) (dl nn (l.map Sp.enc)).elems.length = true := by simp; omega
    have hadd : ad .i64 (k : Int) 1 = ((k + 1 : Nat) : Int) := by rw [ad64 (by omega) (by omega)]; rfl
    have a0 : ((l[k].enc.at 2).at 0).i = l[k].kind := rfl
    have a1 : ((l[k].enc.at 2).at 2).i = l[k].owner := rfl
    have a2 : l[k].enc.at 0 = di l[k].block := rfl
    have step : ownX (l.take (k + 1)) o = ownX (l.take k) o ++ (if l[k].kind = 0 ∧ l[k].owner = o then [l[k].block] else []) := by
      unfold ownX
      rw [List.take_succ_eq_append_getElem h1, List.filter_append, List.map_append]
      congr 1
      by_cases g1 : l[k].kind = 0 <;> by_cases g2 : l[k].owner = o <;> simp [g1, g2]
    rw [e1, e3, hx, hadd, a0, a1, a2]
    simp only [cond_true]
    have skip : ¬ (l[k].kind = 0 ∧ l[k].owner = o) → ∃ b', rec ⟨o, 0, (ownX (l.take k) o).length, dl nn (l.map Sp.enc), (l.length : Int), ((k + 1 : Nat) : Int), b, (ownX (l.take k) o).map (D.int .i64)⟩ = K (.e0 0 (ownX l o).length b' ((ownX l o).map (D.int .i64))) := by
      intro hn
      refine hrec _ ⟨k + 1, b, ?_, by omega⟩ (by simp; omega)
      rw [step]; simp [hn]
    by_cases g1 : l[k].kind = 0
    · rw [show eqI l[k].kind 0 = true by simp [g1]]
      simp only [cond_true]
      by_cases g2 : l[k].owner = o
      · rw [show eqI l[k].owner o = true by simp [g2]]
        simp only [cond_true]
        have hm : mx ((ownX (l.take k) o).length + 1) = true := by have := hlen k; simp; omega
        rw [hm]
        simp only [cond_true]
        refine hrec _ ⟨k + 1, b || true, ?_, by omega⟩ (by simp; omega)
        rw [step, if_pos ⟨g1, g2⟩, List.drop_zero, show (List.map (D.int .i64) (ownX (l.take k) o)).take (ownX (l.take k) o).length = List.map (D.int .i64) (ownX (l.take k) o) from List.take_of_length_le (by simp)]
        simp [ap]
      · rw [show eqI l[k].owner o = false by simp [g2]]
        exact skip (by simp [g2])
    · rw [show eqI l[k].kind 0 = false by simp [g1]]
      exact skip (by simp [g1])
  · have e1 : ltI (k : Int) (l.length : Int) = false := by simp; omega
    rw [e1]
    have hkl : k = l.length := by omega
    subst hkl
    rw [take_all]
    exact ⟨b, rfl⟩
theorem owned_ok (nn : Bool) (l : List Sp) (o : Int) (hl : l.length ≤ 1048576) : ∃ b, F15.s FUEL (dl nn (l.map Sp.enc)) o = some (dl b ((blocksOf (ownX l o)).map (D.int .i64))) := by
  unfold F15.s
  have hl2 := ownX_len l o
  obtain ⟨b, e⟩ := F15_head nn l o hl _
  exact ⟨b, e.trans (F15_tail b (ownX l o) (by omega))⟩
structure Fd where
  (root : Rt) (seq : Int) (pn : Bool) (parts : List Sp) (high : Int)
def Fd.enc (f : Fd) : D := da [f.root.enc, di f.seq, dl f.pn (f.parts.map Sp.enc), di f.high]
theorem ddg_mem (x : Int) : ∀ (xs : List Int) (p : Int), (x = p ∨ x ∈ ddg p xs) ↔ (x = p ∨ x ∈ xs)
  | [], p => Iff.rfl
  | y :: ys, p => by
    unfold ddg
    by_cases h : y = p
    · rw [if_pos h, ddg_mem x ys p]; subst h; simp
    · rw [if_neg h, List.mem_cons, ddg_mem x ys y, List.mem_cons]
theorem dd_mem (x : Int) (xs : List Int) : x ∈ dd xs ↔ x ∈ xs := by
  cases xs with
  | nil => exact Iff.rfl
  | cons y ys => simp only [dd, List.mem_cons]; exact ddg_mem x ys y
theorem ddg_sorted : ∀ (xs : List Int) (p : Int), (p :: xs).Pairwise (· ≤ ·) → (p :: ddg p xs).Pairwise (· < ·)
  | [], p, _ => by simp [ddg]
  | y :: ys, p, h => by
    unfold ddg
    rw [List.pairwise_cons] at h
    by_cases hy : y = p
    · rw [if_pos hy]
      refine ddg_sorted ys p ?_
      rw [List.pairwise_cons] at h ⊢
      exact ⟨fun a ha => h.1 a (List.mem_cons_of_mem _ ha), h.2.2⟩
    · rw [if_neg hy]
      have ih := ddg_sorted ys y h.2
      refine List.pairwise_cons.2 ⟨?_, ih⟩
      intro a ha
      have hp : p < y := by have := h.1 y (by simp); omega
      rcases List.mem_cons.1 ha with rfl | ha'
      · exact hp
      · have := (List.pairwise_cons.1 ih).1 a ha'; omega
theorem dd_sorted {xs : List Int} (h : xs.Pairwise (· ≤ ·)) : (dd xs).Pairwise (· < ·) := by
  cases xs with
  | nil => exact .nil
  | cons y ys => exact ddg_sorted ys y h
theorem blocks_sorted (xs : List Int) : (blocksOf xs).Pairwise (· < ·) := dd_sorted (isort_sorted _)
theorem blocks_mem (x : Int) (xs : List Int) : x ∈ blocksOf xs ↔ x ∈ xs ∧ 0 ≤ x ∧ x < 64 := by
  rw [blocksOf, dd_mem, (isort_perm _).mem_iff, List.mem_filter]
  simp [odd]
theorem sorted_ext {a b : List Int} (ha : a.Pairwise (· < ·)) (hb : b.Pairwise (· < ·)) (h : ∀ x, x ∈ a ↔ x ∈ b) : a = b := by
  have nd : ∀ {l : List Int}, l.Pairwise (· < ·) → l.Nodup := fun hl => hl.imp (fun h => by omega)
  exact List.Perm.eq_of_pairwise (le := (· < ·)) (by intro a b _ _ h1 h2; omega) ha hb ((List.perm_ext_iff_of_nodup (nd ha) (nd hb)).2 h)
end Go.AM.SP
set_option linter.all false
set_option autoImplicit false
namespace Go.AM.SP
open Go Go.AM
theorem sp_of {d : D} (h : D.has ty d (.struct [3, 3, 43])) (hw : D.wf d) : ∃ s : Sp, d = s.enc ∧ s.ok := by
  obtain ⟨ds, rfl, hh⟩ := hass_struct h
  clear h
  rw [show [3, 3, 43].map ty = [.int .i64, .int .i64, .struct [41, 3, 3, 3, 9]] from rfl] at hh
  obtain ⟨d0, _, rfl, h0, hh⟩ := hassC hh
  obtain ⟨d1, _, rfl, h1, hh⟩ := hassC hh
  obtain ⟨d2, _, rfl, h2, hh⟩ := hassC hh
  obtain rfl := hass0 hh
  obtain ⟨x0, rfl⟩ := has_int h0
  obtain ⟨x1, rfl⟩ := has_int h1
  obtain ⟨ds, rfl, hh2⟩ := hass_struct h2
  clear hh h2
  rename_i hh
  have hh := hh2
  rw [show [41, 3, 3, 3, 9].map ty = [.int .i64, .int .i64, .int .i64, .int .i64, .str] from rfl] at hh
  obtain ⟨e0, _, rfl, g0, hh⟩ := hassC hh
  obtain ⟨e1, _, rfl, g1, hh⟩ := hassC hh
  obtain ⟨e2, _, rfl, g2, hh⟩ := hassC hh
  obtain ⟨e3, _, rfl, g3, hh⟩ := hassC hh
  obtain ⟨e4, _, rfl, g4, hh⟩ := hassC hh
  obtain rfl := hass0 hh
  obtain ⟨y0, rfl⟩ := has_int g0
  obtain ⟨y1, rfl⟩ := has_int g1
  obtain ⟨y2, rfl⟩ := has_int g2
  obtain ⟨y3, rfl⟩ := has_int g3
  obtain ⟨y4, rfl⟩ := has_str g4
  rw [D.wf] at hw
  simp only [D.wfs] at hw
  obtain ⟨w0, w1, w2, _⟩ := hw
  rw [D.wf] at w2
  simp only [D.wfs] at w2
  exact ⟨⟨x0, x1, y0, y1, y2, y3, y4⟩, rfl, wf_i64 w0, wf_i64 w1, wf_i64 w2.1, wf_i64 w2.2.1, wf_i64 w2.2.2.1, wf_i64 w2.2.2.2.1⟩
theorem int_of {d : D} (h : D.has ty d (.int .i64)) (hw : D.wf d) : ∃ x : Int, d = di x ∧ i64ok x := by
  obtain ⟨x, rfl⟩ := has_int h
  exact ⟨x, rfl, wf_i64 hw⟩
theorem sps_of {d : D} (h : D.has ty d (.slice 45)) (hw : D.wf d) : ∃ (nn : Bool) (l : List Sp), d = dl nn (l.map Sp.enc) ∧ ∀ s ∈ l, s.ok := by
  obtain ⟨nn, ds, rfl, hh, _⟩ := hass_slice h
  rw [D.wf] at hw
  obtain ⟨l, rfl, _, hl⟩ := hass_rep (f := Sp.enc) (Q := Sp.ok) (fun d h hw => sp_of h hw) (n := ds.length) (κ := .struct [3, 3, 43]) hh hw.2
  exact ⟨nn, l, rfl, hl⟩
structure Rt.ok (r : Rt) : Prop where
  map : ∀ e ∈ r.map, e.ok
  gone : ∀ x ∈ r.gone, i64ok x
  mn : r.mn = false → r.map = []
  gn : r.gn = false → r.gone = []
theorem ddg_len : ∀ (xs : List Int) (p : Int), (ddg p xs).length ≤ xs.length
  | [], _ => by simp [ddg]
  | y :: ys, p => by
    unfold ddg
    have := ddg_len ys p
    have := ddg_len ys y
    split <;> simp <;> omega
theorem dd_len (xs : List Int) : (dd xs).length ≤ xs.length := by
  cases xs with
  | nil => simp [dd]
  | cons y ys => have := ddg_len ys y; simp [dd]; omega
theorem blocks_len (X : List Int) : (blocksOf X).length ≤ X.length := by
  unfold blocksOf
  have h1 := dd_len (isort (X.filter fun b => !odd b))
  rw [isort_len] at h1
  exact Nat.le_trans h1 (List.length_filter_le _ _)
theorem own_loop (d6 d7 : D) (b5 b9 b13 : Bool) (B : List Int) (s : Sp) (l14 : List D) (hB : B.length ≤ 1048576) (K : F4.X14 → Option D) :
    goS (F4.st14 FUEL) FUEL ⟨d6, d7, dl b5 (B.map (D.int .i64)), b9, false, 0, s.enc, b13, l14⟩ K = K (.e0 d6 d7 (dl b5 (B.map (D.int .i64))) b9 (B.any (· == s.block)) s.enc b13 l14) := by
  refine goS_rule (fun t : F4.S14 => ∃ k : Nat, t = ⟨d6, d7, dl b5 (B.map (D.int .i64)), b9, (B.take k).any (· == s.block), (k : Int), s.enc, b13, l14⟩ ∧ k ≤ B.length) (fun t => B.length - t.i11.toNat) (fun R => R = K (.e0 d6 d7 (dl b5 (B.map (D.int .i64))) b9 (B.any (· == s.block)) s.enc b13 l14)) ?_ _ _ ⟨0, by simp, by omega⟩ (by simp [FUEL]; omega)
  rintro _ rec ⟨k, rfl, hk⟩ hrec
  simp only [F4.st14]
  by_cases h1 : k < B.length
  · have hx : ix (dl b5 (B.map (D.int .i64))).elems (k : Int).toNat = di B[k] := ix_map h1
    have e1 : ltI (k : Int) (nI (dl b5 (B.map (D.int .i64))).elems.length) = true := by simp; omega
    have e3 : inb (k : Int) (dl b5 (B.map (D.int .i64))).elems.length = true := by simp; omega
    have hadd : ad .i64 (k : Int) 1 = ((k + 1 : Nat) : Int) := by rw [ad64 (by omega) (by omega)]; rfl
    have a0 : (s.enc.at 0).i = s.block := rfl
    rw [e1, e3, hx, hadd, a0]
    have step : (B.take (k + 1)).any (· == s.block) = ((B.take k).any (· == s.block) || B[k] == s.block) := by
      rw [List.take_succ_eq_append_getElem h1, List.any_append]; simp
    simp only [cond_true]
    cases hb : (B.take k).any (· == s.block)
    · simp only [cond_false]
      refine hrec _ ⟨k + 1, ?_, by omega⟩ (by simp; omega)
      rw [step, hb]
      by_cases g : B[k] = s.block <;> simp [eqI, g]
    · simp only [cond_true]
      refine hrec _ ⟨k + 1, ?_, by omega⟩ (by simp; omega)
      rw [step, hb]; rfl
  · refine cf (by simp; omega) ?_
    have hkl : k = B.length := by omega
    subst hkl
    rw [take_all]
def mineB (s : Sp) (o : Int) : Bool := decide (s.kind = 0 ∧ s.owner = o ∧ 0 ≤ s.block ∧ s.block < 64)
theorem ownX_app (l : List Sp) (s : Sp) (o : Int) : ownX (l ++ [s]) o = ownX l o ++ (if s.kind = 0 ∧ s.owner = o then [s.block] else []) := by
  unfold ownX
  rw [List.filter_append, List.map_append]
  congr 1
  by_cases g1 : s.kind = 0 <;> by_cases g2 : s.owner = o <;> simp [g1, g2]
theorem not_mine {l : List Sp} {s : Sp} {o : Int} (h : mineB s o = false) : blocksOf (ownX (l ++ [s]) o) = blocksOf (ownX l o) := by
  have h' := of_decide_eq_false h
  refine sorted_ext (blocks_sorted _) (blocks_sorted _) ?_
  intro x
  rw [blocks_mem, blocks_mem, ownX_app, List.mem_append]
  by_cases g : s.kind = 0 ∧ s.owner = o
  · rw [if_pos g, List.mem_singleton]
    constructor
    · rintro ⟨h1 | rfl, h2, h3⟩
      · exact ⟨h1, h2, h3⟩
      · exact absurd ⟨g.1, g.2, h2, h3⟩ h'
    · rintro ⟨h1, h2, h3⟩; exact ⟨.inl h1, h2, h3⟩
  · rw [if_neg g]; simp
theorem mine_is {l : List Sp} {s : Sp} {o : Int} (h : mineB s o = true) : (blocksOf (ownX (l ++ [s]) o)).any (· == s.block) = true ∧ ((blocksOf (ownX (l ++ [s]) o)).length = (blocksOf (ownX l o)).length ∨ (blocksOf (ownX (l ++ [s]) o)).length = (blocksOf (ownX l o)).length + 1) := by
  obtain ⟨g1, g2, g3, g4⟩ := of_decide_eq_true h
  have hm : ∀ x, x ∈ blocksOf (ownX (l ++ [s]) o) ↔ x = s.block ∨ x ∈ blocksOf (ownX l o) := by
    intro x
    rw [blocks_mem, blocks_mem, ownX_app, if_pos ⟨g1, g2⟩, List.mem_append, List.mem_singleton]
    constructor
    · rintro ⟨h1 | h1, h2⟩
      · exact .inr ⟨h1, h2⟩
      · exact .inl h1
    · rintro (rfl | ⟨h1, h2⟩)
      · exact ⟨.inr rfl, g3, g4⟩
      · exact ⟨.inl h1, h2⟩
  have nd : ∀ X, (blocksOf X).Nodup := fun X => (blocks_sorted X).imp (fun h => by omega)
  refine ⟨List.any_eq_true.2 ⟨s.block, (hm _).2 (.inl rfl), by simp⟩, ?_⟩
  by_cases g : s.block ∈ blocksOf (ownX l o)
  · left
    refine List.Perm.length_eq ((List.perm_ext_iff_of_nodup (nd _) (nd _)).2 ?_)
    intro x; rw [hm]
    constructor
    · rintro (rfl | h) <;> assumption
    · exact .inr
  · right
    rw [← List.length_cons (a := s.block)]
    refine List.Perm.length_eq ((List.perm_ext_iff_of_nodup (nd _) (List.nodup_cons.2 ⟨g, nd _⟩)).2 ?_)
    intro x; rw [hm, List.mem_cons]
theorem owners_law (nn : Bool) (l : List Sp) (s : Sp) (o : Int) : F4.s FUEL (dl nn (l.map Sp.enc)) s.enc o = some (db true) := by
  unfold F4.s
  refine bdS works_eq (cf (by simp) ?_)
  obtain ⟨b, hb, hfew⟩ := few_ok nn l
  refine bdS hb ?_
  cases b
  · exact cf rfl rfl
  obtain ⟨hl, _⟩ := hfew rfl
  refine ct rfl ?_
  obtain ⟨b2, hb2, _⟩ := few_ok true [s]
  refine bdS hb2 ?_
  cases b2
  · exact ct rfl rfl
  refine cf rfl ?_
  obtain ⟨b4, e4⟩ := owned_ok nn l o (by omega)
  refine bdS e4 (ct (by simp; omega) (ct (by simp; omega) ?_))
  have hrow : (((ap (((dl nn (l.map Sp.enc)).elems.drop 0).take (dl nn (l.map Sp.enc)).elems.length) [s.enc]).drop 0).take ((dl nn (l.map Sp.enc)).elems.length + 1)) = (l ++ [s]).map Sp.enc := by
    have e1 : ((dl nn (l.map Sp.enc)).elems.drop 0).take (dl nn (l.map Sp.enc)).elems.length = l.map Sp.enc := List.take_of_length_le (Nat.le_refl _)
    rw [e1]
    show List.take ((l.map Sp.enc).length + 1) (l.map Sp.enc ++ [s.enc]) = _
    rw [List.take_of_length_le (by simp), List.map_append]; rfl
  rw [hrow]
  obtain ⟨b5, e5⟩ := owned_ok ((!(dl nn (l.map Sp.enc)).elems.isEmpty) || true) (l ++ [s]) o (by simp; omega)
  refine bdS e5 ?_
  have a0 : ((s.enc.at 2).at 0).i = s.kind := rfl
  have a1 : ((s.enc.at 2).at 2).i = s.owner := rfl
  have a2 : (s.enc.at 0).i = s.block := rfl
  rw [a0, a1, a2]
  have hlB : (blocksOf (ownX (l ++ [s]) o)).length ≤ 1048576 := by
    have h1 := blocks_len (ownX (l ++ [s]) o)
    have h2 := ownX_len (l ++ [s]) o
    simp at h2; omega
  have hlA : (blocksOf (ownX l o)).length ≤ 1048575 := by
    have h1 := blocks_len (ownX l o)
    have h2 := ownX_len l o
    omega
  have fin9 : mineB s o = false → blocksOf (ownX (l ++ [s]) o) = blocksOf (ownX l o) := not_mine
  have fin1 := @mine_is l s o
  generalize blocksOf (ownX (l ++ [s]) o) = B at *
  generalize blocksOf (ownX l o) = A at *
  by_cases g1 : s.kind = 0
  · refine ct (by simp [g1]) ?_
    by_cases g2 : s.owner = o
    · refine ct (by simp [g2]) ?_
      by_cases g3 : 0 ≤ s.block
      · refine ct (by simp [g3]) ?_
        refine (own_loop _ _ _ _ _ _ _ _ hlB _).trans ?_
        by_cases g4 : s.block < 64
        · obtain ⟨h1, h2⟩ := fin1 (by simp [mineB, g1, g2, g3, g4])
          have e4 : ltI s.block 64 = true := by simp [g4]
          simp only [e4, h1, b_bool, cond_true, Bool.not_true, cond_false, elems_slice, List.length_map, nI_eq]
          rcases h2 with h2 | h2
          · rw [h2]; refine ct (by simp) rfl
          · refine cf (by simp; omega) (ct ?_ rfl)
            rw [h2, ad64 (by omega) (by omega)]; simp
        · have hB := fin9 (by simp [mineB]; omega)
          subst hB
          have e4 : ltI s.block 64 = false := by simp; omega
          simp only [e4, b_bool, cond_true, Bool.not_false, cond_false, elems_slice, List.length_map, nI_eq]
          refine ct (by simp) (by simp [eqI])
      · refine cf (by simp; omega) ?_
        refine (own_loop _ _ _ _ _ _ _ _ hlB _).trans ?_
        have hB := fin9 (by simp [mineB]; omega)
        subst hB
        simp only [b_bool, cond_true, Bool.not_false, cond_false, elems_slice, List.length_map, nI_eq]
        refine ct (by simp) (by simp [eqI])
    · refine cf (by simp [g2]) ?_
      refine (own_loop _ _ _ _ _ _ _ _ hlB _).trans ?_
      have hB := fin9 (by simp [mineB, g2])
      subst hB
      simp only [b_bool, cond_true, Bool.not_false, cond_false, elems_slice, List.length_map, nI_eq]
      refine ct (by simp) (by simp [eqI])
  · refine cf (by simp [g1]) ?_
    refine (own_loop _ _ _ _ _ _ _ _ hlB _).trans ?_
    have hB := fin9 (by simp [mineB, g1])
    subst hB
    simp only [b_bool, cond_true, Bool.not_false, cond_false, elems_slice, List.length_map, nI_eq]
    refine ct (by simp) (by simp [eqI])
theorem run4 (p0 p1 : D) (o : Int) : F4.c.run [p0, p1, di o] = F4.s FUEL p0 p1 o := by simp only [F4.c, i_int]
theorem pure4 : ∀ ds, D.hass ty ds [(.slice 45), (.struct [3, 3, 43]), (.int .i64)] → D.wfs ds → F4.c.run ds = some (.bool true) := by
  intro ds h hw
  obtain ⟨d0, _, rfl, h0, h⟩ := hassC h
  obtain ⟨d1, _, rfl, h1, h⟩ := hassC h
  obtain ⟨d2, _, rfl, h2, h⟩ := hassC h
  obtain rfl := hass0 h
  simp only [D.wfs] at hw
  obtain ⟨nn, l, rfl, hl⟩ := sps_of h0 hw.1
  obtain ⟨s, rfl, hs⟩ := sp_of h1 hw.2.1
  obtain ⟨o, rfl, ho⟩ := int_of h2 hw.2.2.1
  rw [run4]
  exact owners_law nn l s o
end Go.AM.SP
