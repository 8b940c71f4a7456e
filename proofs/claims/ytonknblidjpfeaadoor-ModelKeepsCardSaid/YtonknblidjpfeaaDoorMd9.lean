/- Part 9 of the proof: the abstract machine, what the functions compute, and plain laws over that. -/
import Derived.Test.YtonknblidjpfeaaDoorMd8
import Derived.Lib.RuneCountTail
import Derived.Lib.MapLaws
set_option linter.all false
set_option linter.unusedSimpArgs false
set_option linter.unusedVariables false
set_option linter.unusedSectionVars false
namespace Go.AM.SD
open Go Go.AM
theorem decodeGo_tail (s : ByteArray) (pos : Nat) (h : pos < s.size) : Lib.decodeGo (s.extract pos s.size) = Utf8.decode s pos := by
  unfold Lib.decodeGo
  rw [if_neg (by rw [Lib.tail_size]; omega), Lib.tail_decode, Nat.add_zero]
def keyR (s : ByteArray) (r : Nat × Nat) : Int := if r.2 = 65533 ∧ (Utf8.decode s r.1).2 < 2 then 1114112 + byteAt s r.1 else (r.2 : Int)
def keys (s : ByteArray) : List Int := (runes s).map (keyR s)
theorem broken_spec (s : ByteArray) (p : Nat) (r : Nat) (h : p < s.size) (hs : s.size ≤ 1048576) : F109.s FUEL s (nI p) (r : Int) = some (db (decide (r = 65533 ∧ (Utf8.decode s p).2 < 2))) := by
  unfold F109.s
  by_cases hr : r = 65533
  · subst hr
    refine cf (by simp) (ct (by simp; omega) ?_)
    simp only [nI_eq, Int.toNat_natCast, decodeGo_tail s p h, ltI]
    congr 2
    rw [Bool.eq_iff_iff]; simp
    omega
  · refine ct (by simp; omega) ?_
    simp [hr]
theorem byteAt_range (s : ByteArray) (p : Nat) : 0 ≤ byteAt s p ∧ byteAt s p < 256 := by
  unfold byteAt
  have := (s.data.toList.getD p 0).toNat_lt
  omega
theorem i32_small {n : Int} (h0 : 0 ≤ n) (h1 : n < 2000000) : IntKind.wrap .i32 n = n := by
  simp [IntKind.wrap, IntKind.signed, IntKind.bits]
  omega
theorem runes_spec (s : ByteArray) (hs : s.size ≤ 1048576) : F102.s FUEL s = some (dl (!(keys s).isEmpty) ((keys s).map (D.int .i32))) := by
  unfold F102.s
  have hl := runes_len s
  refine goS_rule (fun t => ∃ (p : Nat) (l : List Int), t = ⟨s, 0, l.length, s, p, !l.isEmpty, l.map (D.int .i32)⟩ ∧ keys s = l ++ (runesFrom s p).map (keyR s)) (fun t => s.size - t.n5) (fun o => o = some (dl (!(keys s).isEmpty) ((keys s).map (D.int .i32)))) ?_ _ _ ⟨0, [], rfl, by simp [keys, runes, runesFrom]⟩ (by simp [FUEL]; omega)
  rintro _ rec ⟨p, l, rfl, hk⟩ hrec
  simp only [F102.st3]
  have hp := decode_pos s p
  by_cases h : p < s.size
  · have hlen : l.length < 1048577 := by
      have := congrArg List.length hk
      simp [keys] at this
      omega
    refine ct (by simpa using h) (bdS (broken_spec s p _ h hs) ?_)
    rw [runesFrom_step h] at hk
    have hall : ∀ x : Int, x = keyR s (p, (Utf8.decode s p).1) → rec ⟨s, 0, l.length + 1, s, p + (Utf8.decode s p).2, (!l.isEmpty || true), ap (((l.map (D.int .i32)).drop 0).take l.length) [D.int .i32 x]⟩ = some (dl (!(keys s).isEmpty) ((keys s).map (D.int .i32))) := by
      intro x hx
      refine hrec _ ⟨p + (Utf8.decode s p).2, l ++ [x], ?_, ?_⟩ (by simp; omega)
      · have e1 : ap (((l.map (D.int .i32)).drop 0).take l.length) [D.int .i32 x] = (l ++ [x]).map (D.int .i32) := by
          rw [ap, List.drop_zero, List.take_of_length_le (by simp)]; simp
        rw [e1]; simp
      · rw [hk, hx]; simp
    by_cases hb : (Utf8.decode s p).1 = 65533 ∧ (Utf8.decode s p).2 < 2
    · refine ct (by simpa using hb) (ct (by simp; omega) (ct (by simp; omega) (hall _ ?_)))
      have hr := byteAt_range s p
      simp only [ad, cv]
      have e1 := i32_small (n := byteAt s p) (by omega) (by omega)
      rw [e1, i32_small (by omega) (by omega), keyR, if_pos hb]
    · refine cf (by simpa using hb) (ct (by simp; omega) (hall _ ?_))
      rw [keyR, if_neg hb]
  · refine cf (by simpa using h) ?_
    rw [runesFrom_end (by omega)] at hk
    simp at hk
    rw [hk]
    refine ct (by simp) rfl
theorem keys_len (s : ByteArray) : (keys s).length ≤ s.size := by simp [keys]; exact runes_len s
def lexB : List Int → List Int → Bool
  | [], ys => !ys.isEmpty
  | _ :: _, [] => false
  | x :: xs, y :: ys => if x = y then lexB xs ys else decide (x < y)
def lessB (a b : ByteArray) : Bool := lexB (keys a) (keys b)
theorem lexB_drop {xs ys : List Int} {i : Nat} (h : ∀ j (h1 : j < xs.length) (h2 : j < ys.length), j < i → xs[j] = ys[j]) (hi : i ≤ xs.length) (hi' : i ≤ ys.length) : lexB xs ys = lexB (xs.drop i) (ys.drop i) := by
  induction i generalizing xs ys with
  | zero => simp
  | succ i ih =>
    match xs, ys with
    | [], _ => simp at hi
    | _ :: _, [] => simp at hi'
    | x :: xs, y :: ys =>
      have h0 := h 0 (by simp) (by simp) (by omega)
      simp at h0
      simp only [lexB, h0, if_true, List.drop_succ_cons]
      exact ih (fun j h1 h2 h3 => by have := h (j + 1) (by simpa using h1) (by simpa using h2) (by omega); simpa using this) (by simpa using hi) (by simpa using hi')
theorem less_spec (a b : ByteArray) (ha : a.size ≤ 1048576) (hb : b.size ≤ 1048576) : F77.s FUEL a b = some (db (lessB a b)) := by
  unfold F77.s
  refine bdS (runes_spec a ha) (bdS (runes_spec b hb) ?_)
  have hla := keys_len a
  have hlb := keys_len b
  simp only [elems_slice, nn_slice, List.length_map]
  generalize hx : keys a = xs at hla
  generalize hy : keys b = ys at hlb
  refine goS_rule (fun t => ∃ i : Nat, t = ⟨0, xs.length, 0, ys.length, 0, xs.length, nI xs.length, (i : Int), !xs.isEmpty, xs.map (D.int .i32), !ys.isEmpty, ys.map (D.int .i32)⟩ ∧ i ≤ xs.length ∧ i ≤ ys.length ∧ ∀ j (h1 : j < xs.length) (h2 : j < ys.length), j < i → xs[j] = ys[j]) (fun t => xs.length - t.i10.toNat) (fun o => o = some (db (lessB a b))) ?_ _ _ ⟨0, by simp, by omega, by omega, by omega⟩ (by simp [FUEL]; omega)
  rintro _ rec ⟨i, rfl, hi, hi', hs⟩ hrec
  have hlex := lexB_drop hs hi hi'
  simp only [F77.st3]
  unfold lessB at hrec ⊢
  rw [hx, hy] at hrec ⊢
  by_cases h1 : i < xs.length
  · refine ct (by simp; omega) (ct (by simp; omega) ?_)
    rw [List.drop_eq_getElem_cons h1] at hlex
    by_cases h2 : i < ys.length
    · rw [List.drop_eq_getElem_cons h2] at hlex
      simp only [lexB] at hlex
      refine cf (by simp; omega) (ct (by simp; omega) ?_)
      simp only [Int.toNat_natCast, Nat.zero_add, ix_map h1, ix_map h2, i_int]
      by_cases h3 : xs[i] = ys[i]
      · refine cf (by simpa using h3) (hrec _ ⟨i + 1, ?_, by omega, by omega, ?_⟩ ?_)
        · rw [ad64 (by omega) (by omega)]; rfl
        · intro j hj1 hj2 hj
          by_cases hji : j = i
          · subst hji; exact h3
          · exact hs j hj1 hj2 (by omega)
        · rw [ad64 (by omega) (by omega)]; simp; omega
      · refine ct (by simpa using h3) (ct (by simp; omega) ?_)
        rw [if_neg h3] at hlex
        rw [hlex]
        rfl
    · have hdy : ys.drop i = [] := List.drop_of_length_le (by omega)
      rw [hdy] at hlex
      simp only [lexB] at hlex
      refine ct (by simp; omega) ?_
      rw [hlex]
  · have hdx : xs.drop i = [] := List.drop_of_length_le (by omega)
    rw [hdx] at hlex
    simp only [lexB] at hlex
    refine cf (by simp; omega) ?_
    rw [hlex]
    congr 2
    rw [Bool.eq_iff_iff, ltI_t, nI_eq, nI_eq]
    have e : (!(ys.drop i).isEmpty) = true ↔ i < ys.length := by
      rw [Bool.not_eq_true', List.isEmpty_eq_false_iff, ← List.length_pos_iff, List.length_drop]
      omega
    rw [e]; omega
def insH (s : ByteArray) (l : List ByteArray) : List ByteArray := match l.findIdx? (fun y => !lessB y s) with
  | some i => l.take i ++ [s] ++ l.drop i
  | none => l ++ [s]
def hasB (l : List ByteArray) (s : ByteArray) : Bool := l.any fun y => decide (s = y)
def holdF (f : Fl) (s : ByteArray) : Fl × Int :=
  if f.sealed = false then (f, 6) else if nameB s = false then (f, 2) else if hasB f.holds s = true then (f, 4) else if 4 ≤ f.holds.length then (f, 10) else ({ f with nn := true, holds := insH s f.holds }, 0)
theorem hold_spec (f : Fl) (s : ByteArray) (hs : s.size ≤ 1048576) (hh : f.holds.length ≤ 1048576) (hsz : ∀ x ∈ f.holds, x.size ≤ 1048576) (hn : f.nn = false → f.holds = []) : F63.s FUEL f.enc s = some (.tup [(holdF f s).1.enc, di (holdF f s).2]) := by
  unfold F63.s holdF
  by_cases hse : f.sealed = false
  · rw [if_pos hse]; exact ct (by simp [Fl.enc, hse]) rfl
  · rw [if_neg hse]
    refine cf (by simp [Fl.enc]; simpa using hse) (bdS (name_spec s hs) ?_)
    cases hnm : nameB s with
    | false => exact ct rfl rfl
    | true =>
      refine cf rfl ?_
      rw [if_neg (by simp)]
      have h5 : f.enc.at 5 = dl f.nn (f.holds.map dS) := rfl
      rw [h5]
      refine bdS (contains_spec f.nn f.holds s hh) ?_
      show cond (hasB f.holds s) _ _ = _
      cases hc : hasB f.holds s with
      | true => exact ct rfl rfl
      | false =>
        refine cf rfl ?_
        rw [if_neg (by simp)]
        by_cases h4 : 4 ≤ f.holds.length
        · rw [if_pos h4]; exact ct (by simp; omega) rfl
        · rw [if_neg h4]
          refine cf (by simp; omega) ?_
          have hcl := clone_strs f.nn (f.holds.map dS) (fun h => by rw [hn h]; rfl) (by simp; omega)
          have fin : ∀ i : Nat, i ≤ f.holds.length → insH s f.holds = f.holds.take i ++ [s] ++ f.holds.drop i →
              (some (D.tup [(da [f.enc.at 0, f.enc.at 1, f.enc.at 2, f.enc.at 3, f.enc.at 4, (dl true (((ap (ap ((((f.holds.map dS).drop 0).take (f.holds.map dS).length).take i) [dS s]) ((((f.holds.map dS).drop 0).take (f.holds.map dS).length).drop i)).drop 0).take ((f.holds.map dS).length + 1)))]), di 0]) : Option D) =
                some (.tup [({ f with nn := true, holds := insH s f.holds } : Fl).enc, di 0]) := by
            intro i hi he
            have e1 : ((ap (ap ((((f.holds.map dS).drop 0).take (f.holds.map dS).length).take i) [dS s]) ((((f.holds.map dS).drop 0).take (f.holds.map dS).length).drop i)).drop 0).take ((f.holds.map dS).length + 1) = (insH s f.holds).map dS := by
              rw [he, List.drop_zero, List.drop_zero, List.take_of_length_le (l := f.holds.map dS) (Nat.le_refl _), ap, ap, List.take_of_length_le]
              · simp [List.map_take, List.map_drop]
              · simp; omega
            rw [e1]
            rfl
          refine goS_rule (fun t : F63.S85_2 => ∃ k : Nat, t = ⟨dl f.nn (f.holds.map dS), s, nI (dl f.nn (f.holds.map dS)).elems.length, (k : Int), f.enc, 0, bs [], bs [], false, 0, false, []⟩ ∧ k ≤ f.holds.length ∧ ∀ i (h : i < f.holds.length), i < k → (!lessB f.holds[i] s) = false) (fun t => f.holds.length - t.i6.toNat) (fun o => o = some (.tup [({ f with nn := true, holds := insH s f.holds } : Fl).enc, di 0])) ?_ _ _ ⟨0, rfl, by omega, by omega⟩ (by simp [FUEL]; omega)
          rintro _ rec ⟨k, rfl, hk, hlt⟩ hrec
          simp only [F63.st85_2]
          by_cases h1 : k < f.holds.length
          · refine ct (by simp; omega) (ct (by simp; omega) ?_)
            simp only [elems_slice, Int.toNat_natCast, ix_map h1, s_str]
            refine bdS (less_spec _ _ (hsz _ (List.getElem_mem h1)) hs) ?_
            cases hb : lessB f.holds[k] s with
            | false =>
              refine ct rfl (cf (by simp) (bdS (by rw [h5]; exact hcl) (ct ?_ ?_)))
              · simp; omega
              · refine fin k (by omega) ?_
                rw [insH, findIdx_some_of h1 hlt (by simp [hb])]
            | true =>
              refine cf rfl (hrec _ ⟨k + 1, ?_, by omega, ?_⟩ ?_)
              · rw [ad64 (by omega) (by omega)]; rfl
              · intro i hi hik
                by_cases hik' : i = k
                · subst hik'; simp [hb]
                · exact hlt i hi (by omega)
              · rw [ad64 (by omega) (by omega)]; simp; omega
          · refine cf (by simp; omega) (bdS (by rw [h5]; exact hcl) (ct ?_ ?_))
            · rw [h5]; simp; omega
            · rw [h5]
              have := fin f.holds.length (Nat.le_refl _) (by rw [insH, findIdx_none_of (fun i hi => hlt i hi (by omega))]; simp)
              simpa using this
def releaseF (f : Fl) (s : ByteArray) : Fl × Int := match f.holds.findIdx? (fun y => decide (s = y)) with
  | some i => ({ f with holds := f.holds.eraseIdx i }, 0)
  | none => (f, 3)
end Go.AM.SD
namespace Go.AM.SD
open Go Go.AM
theorem findI_some {α : Type} {p : α → Bool} {l : List α} {i : Nat} (h : l.findIdx? p = some i) : findI p l = (i : Int) := by rw [findI, h]
theorem findI_none {α : Type} {p : α → Bool} {l : List α} (h : l.findIdx? p = none) : findI p l = -1 := by rw [findI, h]
theorem findIdx_lt {α : Type} {p : α → Bool} {l : List α} {i : Nat} (h : l.findIdx? p = some i) : i < l.length := by
  rw [List.findIdx?_eq_some_iff_getElem] at h
  exact h.1
theorem findIdx_is {α : Type} {p : α → Bool} {l : List α} {i : Nat} (h : l.findIdx? p = some i) : ∃ hi : i < l.length, p l[i] = true := by
  rw [List.findIdx?_eq_some_iff_getElem] at h
  exact ⟨h.1, h.2.1⟩
theorem del_row {L M R S T : List D} {i a m1 m2 : Nat} (hi : i < L.length) (ha : a = i) (hM : M = L.drop (i + 1)) (h1 : m1 = i + M.length) (h2 : m2 = i + M.length) :
    (((ap (ap ((ap (ap (L.take a) M) R).take m1) S) T).drop 0).take m2) = L.eraseIdx i := by
  have e : (L.take i ++ M).length = i + M.length := by rw [List.length_append, List.length_take, Nat.min_eq_left (by omega)]
  subst ha
  simp only [ap, List.drop_zero]
  rw [h1, h2, ← e, List.take_left, List.append_assoc, List.take_left, hM, List.eraseIdx_eq_take_drop_succ]
theorem eraseIdx_map {α β : Type} (f : α → β) (l : List α) (i : Nat) : (l.map f).eraseIdx i = (l.eraseIdx i).map f := by
  rw [List.eraseIdx_eq_take_drop_succ, List.eraseIdx_eq_take_drop_succ, List.map_append, List.map_take, List.map_drop]
theorem release_spec (f : Fl) (s : ByteArray) (hh : f.holds.length ≤ 1048576) (hn : f.nn = false → f.holds = []) : F65.s FUEL f.enc s = some (.tup [(releaseF f s).1.enc, di (releaseF f s).2]) := by
  unfold F65.s releaseF
  have h5 : f.enc.at 5 = dl f.nn (f.holds.map dS) := rfl
  rw [h5]
  refine bdS (index_spec f.nn f.holds s hh) ?_
  cases hx : f.holds.findIdx? (fun y => decide (s = y)) with
  | none => rw [findI_none hx]; exact ct (by simp) rfl
  | some i =>
    rw [findI_some hx]
    have hi := findIdx_lt hx
    have had : ad .i64 (i : Int) 1 = ((i + 1 : Nat) : Int) := by rw [ad64 (by omega) (by omega)]; rfl
    refine cf (by simp) (bdS (clone_strs f.nn (f.holds.map dS) (fun h => by rw [hn h]; rfl) (by simp; omega)) ?_)
    simp only [i_int, elems_slice, nn_slice, had, Int.toNat_natCast, Nat.sub_zero, Nat.zero_add, List.length_map]
    refine ct ?_ (cf (by simp; omega) (ct ?_ (ct ?_ (ct ?_ (ct ?_ ?_)))))
    · simp; omega
    · simp; omega
    · simp; omega
    · simp; omega
    · simp [ap]; omega
    · rw [del_row (i := i) (by simp; omega) rfl (by rw [List.take_of_length_le]; simp) rfl rfl, eraseIdx_map]
      rfl
theorem same_strs (nn : Bool) (l : List ByteArray) (hl : l.length ≤ 1048576) : F53.s FUEL (dl nn (l.map dS)) (dl nn (l.map dS)) = some (db true) := by
  unfold F53.s
  refine cf (by simp) ?_
  refine goS_rule (fun t : F53.S4 => ∃ k : Nat, t = ⟨dl nn (l.map dS), dl nn (l.map dS), nI l.length, (k : Int)⟩ ∧ k ≤ l.length) (fun t => l.length - t.i4.toNat) (fun o => o = some (db true)) ?_ _ _ ⟨0, by simp, by omega⟩ (by simp [FUEL]; omega)
  rintro _ rec ⟨k, rfl, hk⟩ hrec
  simp only [F53.st4]
  by_cases h1 : k < l.length
  · refine ct (by simp; omega) (ct (by simp; omega) (ct (by simp; omega) (cf (by simp) (hrec _ ⟨k + 1, ?_, by omega⟩ ?_))))
    · rw [ad64 (by omega) (by omega)]; rfl
    · rw [ad64 (by omega) (by omega)]; simp; omega
  · exact cf (by simp; omega) rfl
theorem same_file (f : Fl) (hl : f.holds.length ≤ 1048576) : F32.s FUEL f.enc f.enc = some (db true) := by
  unfold F32.s
  refine ct (by simp) (ct (by simp) (ct (by simp) ?_))
  have h3 : f.enc.at 3 = db f.sealed := rfl
  have h5 : f.enc.at 5 = dl f.nn (f.holds.map dS) := rfl
  rw [h3, h5]
  refine bdS (x := db true) (by rw [show eqDepth = 15 + 1 from rfl, eqv_bool]; simp) (ct rfl (ct (by simp) (bdS (same_strs _ _ hl) rfl)))
end Go.AM.SD
namespace Go.AM.SD
open Go Go.AM
theorem row_set {α : Type} {f : α → D} {l : List α} {i m : Nat} {y : α} (h : m = l.length) : (((l.map f).set i (f y)).drop 0).take m = (l.set i y).map f := by
  rw [List.drop_zero, List.take_of_length_le (by simp; omega), List.map_set]
end Go.AM.SD
namespace Go.AM.SD
open Go Go.AM
theorem insH_len (s : ByteArray) (l : List ByteArray) : (insH s l).length = l.length + 1 := by
  unfold insH
  split
  · rename_i i h
    have := findIdx_lt h
    simp; omega
  · simp
theorem insH_mem {s t : ByteArray} {l : List ByteArray} (h : t ∈ insH s l) : t = s ∨ t ∈ l := by
  unfold insH at h
  split at h
  · simp only [List.mem_append, List.mem_singleton] at h
    rcases h with (h | h) | h
    · exact .inr (List.mem_of_mem_take h)
    · exact .inl h
    · exact .inr (List.mem_of_mem_drop h)
  · simp only [List.mem_append, List.mem_singleton] at h
    exact h.symm
end Go.AM.SD
namespace Go.AM.SD
open Go Go.AM
structure St where
  nn : Bool
  files : List Fl
  last : Int
  floor : Int
def St.enc (s : St) : D := da [dl s.nn (s.files.map Fl.enc), di s.last, di s.floor]
structure Mo where
  kind : Int
  name : ByteArray
  text : ByteArray
  time : Int
  a : Int
  b : Int
def Mo.enc (o : Mo) : D := da [di o.kind, dS o.name, dS o.text, di o.time, di o.a, di o.b]
structure An where
  err : Int
  n : Int
  text : ByteArray
  file : Fl
  nn : Bool
  names : List ByteArray
def An.enc (a : An) : D := da [di a.err, di a.n, dS a.text, a.file.enc, dl a.nn (a.names.map dS)]
def zeroF : Fl := ⟨0, bs [], bs [], false, 0, false, []⟩
def zeroEv : Ev := ⟨0, 0, bs [], 0, 0, zeros⟩
def wrongA (e : Int) : An := ⟨e, 0, bs [], zeroF, false, []⟩
def appendF (f : Fl) (s : ByteArray) : Fl × Int :=
  if f.sealed = true then (f, 5) else if s = bs [] then (f, 1) else if 600 < f.data.size + s.size then (f, 10) else ({ f with data := f.data ++ s }, 0)
def readF (f : Fl) (a b : Int) : ByteArray × Int :=
  if a < 0 then (bs [], 1) else if b < a then (bs [], 1) else if (f.data.size : Int) < b then (bs [], 1) else (f.data.extract a.toNat b.toNat, 0)
def metaF (f : Fl) : Fl := { f with data := bs [] }
def newF (id : Int) (s : ByteArray) : Fl × Int :=
  if nameB s = false then (zeroF, 2) else if 1 ≤ id ∧ id ≤ 1099511627776 then (⟨id, s, bs [], false, 0, false, []⟩, 0) else (zeroF, 1)
def deedF (f : Fl) (o : Mo) (floor : Int) : Fl × Int :=
  if o.kind = 0 then (f, 4)
  else if o.kind = 1 then appendF f o.text
  else if o.kind = 2 then sealF f o.time
  else if o.kind = 3 then extendF f o.time
  else if o.kind = 4 then holdF f o.text
  else if o.kind = 5 then releaseF f o.text
  else if o.kind = 6 then (zeroF, mayN f floor)
  else (f, 1)
def tellE (sum : ByteArray → List Int) (f : Fl) (o : Mo) : Ev :=
  ⟨o.kind, f.id, if o.kind = 4 ∨ o.kind = 5 then o.text else bs [], if o.kind = 2 ∨ o.kind = 3 then o.time else 0,
    if o.kind = 1 then (o.text.size : Int) else if o.kind = 2 then (f.data.size : Int) else 0, if o.kind = 2 then sum f.data else zeros⟩
def fileDo (sum : ByteArray → List Int) (f : Fl) (o : Mo) (floor : Int) : Fl × Ev × Int :=
  if (deedF f o floor).2 = 0 then ((deedF f o floor).1, tellE sum f o, 0) else (f, zeroEv, (deedF f o floor).2)
structure Res where
  st : St
  an : An
  nn : Bool
  evs : List Ev
def findM (s : St) (n : ByteArray) : Option Nat := s.files.findIdx? fun f => decide (f.name = n)
def stay (s : St) (e : Int) : Res := ⟨s, wrongA e, false, []⟩
def createM (s : St) (o : Mo) : Res :=
  if nameB o.name = false then stay s 2
  else if 0 ≤ findI (fun f : Fl => decide (f.name = o.name)) s.files then stay s 4
  else if 12 ≤ s.files.length then stay s 10
  else if 1099511627776 ≤ s.last then stay s 10
  else ⟨⟨true, s.files ++ [⟨s.last + 1, o.name, bs [], false, 0, false, []⟩], s.last + 1, s.floor⟩, ⟨0, s.last + 1, bs [], zeroF, false, []⟩, true, [⟨0, s.last + 1, o.name, 0, 0, zeros⟩]⟩
def changeM (sum : ByteArray → List Int) (s : St) (o : Mo) : Res :=
  match findM s o.name with
  | none => stay s 3
  | some i => match s.files[i]? with
    | none => stay s 3
    | some f => if (fileDo sum f o s.floor).2.2 = 0 then
        if o.kind = 6 then ⟨{ s with files := s.files.eraseIdx i }, ⟨0, (fileDo sum f o s.floor).2.1.id, bs [], zeroF, false, []⟩, true, [(fileDo sum f o s.floor).2.1]⟩
        else ⟨{ s with files := s.files.set i (fileDo sum f o s.floor).1 }, ⟨0, ((fileDo sum f o s.floor).1.data.size : Int), bs [], zeroF, false, []⟩, true, [(fileDo sum f o s.floor).2.1]⟩
      else stay s (fileDo sum f o s.floor).2.2
def floorN (floor t : Int) : Int := max floor (min (max t 0) 1099511627776)
def tickM (s : St) (o : Mo) : Res :=
  if floorN s.floor o.time = s.floor then ⟨s, ⟨0, s.floor, bs [], zeroF, false, []⟩, false, []⟩
  else ⟨{ s with floor := floorN s.floor o.time }, ⟨0, floorN s.floor o.time, bs [], zeroF, false, []⟩, true, [⟨7, 0, bs [], floorN s.floor o.time, 0, zeros⟩]⟩
def dueL (l : List Fl) (floor : Int) : List Int := (l.filter fun f => decide (mayN f floor = 0)).map (·.id)
def delEv (id : Int) : Ev := ⟨6, id, bs [], 0, 0, zeros⟩
def sweepM (s : St) : Res :=
  ⟨{ s with files := s.files.filter fun f => !decide (mayN f s.floor = 0) }, ⟨0, ((dueL s.files s.floor).length : Int), bs [], zeroF, false, []⟩, !(dueL s.files s.floor).isEmpty, (dueL s.files s.floor).map delEv⟩
def readM (s : St) (o : Mo) : Res :=
  match findM s o.name with
  | none => stay s 3
  | some i => match s.files[i]? with
    | none => stay s 3
    | some f => ⟨s, ⟨(readF f o.a o.b).2, 0, (readF f o.a o.b).1, zeroF, false, []⟩, false, []⟩
def statM (s : St) (o : Mo) : Res :=
  match findM s o.name with
  | none => stay s 3
  | some i => match s.files[i]? with
    | none => stay s 3
    | some f => ⟨s, ⟨0, 0, bs [], metaF f, false, []⟩, false, []⟩
def insN (x : ByteArray) : List ByteArray → List ByteArray
  | [] => [x]
  | y :: l => if lessB x y = true then x :: y :: l else y :: insN x l
def sortN (l : List ByteArray) : List ByteArray := l.foldl (fun acc x => insN x acc) []
def listM (s : St) : Res := ⟨s, ⟨0, 0, bs [], zeroF, !s.files.isEmpty, sortN (s.files.map (·.name))⟩, false, []⟩
def doM (sum : ByteArray → List Int) (s : St) (o : Mo) : Res :=
  if o.kind < 0 then stay s 1
  else if 12 ≤ o.kind then stay s 1
  else if o.kind = 0 then createM s o
  else if o.kind = 7 then tickM s o
  else if o.kind = 8 then sweepM s
  else if o.kind = 9 then readM s o
  else if o.kind = 10 then statM s o
  else if o.kind = 11 then listM s
  else changeM sum s o
def riseB (l : List ByteArray) : Prop := l.Pairwise fun a b => lessB a b = true
structure FlOk (f : Fl) (last : Int) : Prop where
  id0 : 1 ≤ f.id
  id1 : f.id ≤ last
  name : nameB f.name = true
  nsz : f.name.size ≤ 1000
  data : f.data.size ≤ 600
  until0 : 0 ≤ f.until_
  until1 : f.until_ ≤ 1099511627776
  hold : f.holds.length ≤ 4
  hsz : ∀ s ∈ f.holds, s.size ≤ 1000
  hname : ∀ s ∈ f.holds, nameB s = true
  rise : riseB f.holds
  nil : f.nn = false → f.holds = []
  opn : f.sealed = false → f.until_ = 0 ∧ f.holds = []
structure StOk (s : St) : Prop where
  len : s.files.length ≤ 12
  nil : s.nn = false → s.files = []
  last0 : 0 ≤ s.last
  last1 : s.last ≤ 1099511627776
  floor0 : 0 ≤ s.floor
  floor1 : s.floor ≤ 1099511627776
  files : ∀ f ∈ s.files, FlOk f s.last
  rise : s.files.Pairwise fun a b => a.id < b.id
  names : s.files.Pairwise fun a b => a.name ≠ b.name
structure MoOk (o : Mo) : Prop where
  kind : i64ok o.kind
  time : i64ok o.time
  a : i64ok o.a
  b : i64ok o.b
  name : o.name.size ≤ 1000
  text : o.text.size ≤ 1000
end Go.AM.SD
namespace Go.AM.SD
open Go Go.AM
theorem lexB_irrefl : ∀ l : List Int, lexB l l = false
  | [] => rfl
  | x :: l => by simp only [lexB, if_true]; exact lexB_irrefl l
theorem lexB_trans : ∀ {a b c : List Int}, lexB a b = true → lexB b c = true → lexB a c = true
  | [], [], _, h, _ => by simp [lexB] at h
  | [], _ :: _, [], _, h => by simp [lexB] at h
  | [], _ :: _, _ :: _, _, _ => rfl
  | _ :: _, [], _, h, _ => by simp [lexB] at h
  | _ :: _, _ :: _, [], _, h => by simp [lexB] at h
  | x :: a, y :: b, z :: c, h1, h2 => by
    simp only [lexB] at h1 h2 ⊢
    split at h1
    · subst x
      split at h2
      · subst y; rw [if_pos rfl]; exact lexB_trans h1 h2
      · rename_i h; rw [if_neg h]; exact h2
    · split at h2
      · subst y; rename_i h; rw [if_neg h]; exact h1
      · simp only [decide_eq_true_eq] at h1 h2
        rw [if_neg (by omega)]
        simp only [decide_eq_true_eq]; omega
theorem lexB_tri : ∀ a b : List Int, lexB a b = true ∨ a = b ∨ lexB b a = true
  | [], [] => .inr (.inl rfl)
  | [], _ :: _ => .inl rfl
  | _ :: _, [] => .inr (.inr rfl)
  | x :: a, y :: b => by
    simp only [lexB]
    by_cases h : x = y
    · subst h
      simp only [if_true]
      rcases lexB_tri a b with h | h | h
      · exact .inl h
      · subst h; exact .inr (.inl rfl)
      · exact .inr (.inr h)
    · rw [if_neg h, if_neg (by omega)]
      simp only [decide_eq_true_eq]
      omega
theorem dec_L (s : ByteArray) (p : Nat) : Lib.decodeL (s.data.toList.drop p) = Utf8.decode s p := by
  have e : (⟨(s.data.toList.drop p).toArray⟩ : ByteArray) = s.extract p s.size := by
    apply ByteArray.ext
    apply Array.toList_inj.1
    simp
    exact (List.take_of_length_le (by rw [List.length_drop, Array.length_toList]; exact Nat.le_refl _)).symm
  unfold Lib.decodeL
  rw [e, Lib.tail_decode, Nat.add_zero]
theorem dec_top (s : ByteArray) (p : Nat) : (Utf8.decode s p).1 ≤ 1114111 := by
  rw [← dec_L, Lib.decodeL_N]
  have k0 := ((s.data.toList.drop p).getD 0 0).toNat_lt
  rcases Lib.decodeN_shape (s.data.toList.drop p).length ((s.data.toList.drop p).getD 0 0).toNat ((s.data.toList.drop p).getD 1 0).toNat ((s.data.toList.drop p).getD 2 0).toNat ((s.data.toList.drop p).getD 3 0).toNat with ⟨c, e⟩ | ⟨c1, c2, c3, cv, e⟩ | ⟨c1, c2, c3, c4, cv, cs, e⟩ | ⟨c1, c2, c3, c4, c5, cv, cw, e⟩ | e
  all_goals rw [e]; dsimp only; omega
def chunk (k : Int) : List UInt8 := if 1114112 ≤ k then [UInt8.ofNat (k - 1114112).toNat] else Lib.encodeRune k
theorem key_chunk {s : ByteArray} {p : Nat} (h : p < s.size) : (s.data.toList.drop p).take (Utf8.decode s p).2 = chunk (keyR s (p, (Utf8.decode s p).1)) := by
  have hp := decode_pos s p
  have ht := dec_top s p
  have hl : 0 < (s.data.toList.drop p).length := by
    have : s.data.toList.length = s.size := by simp
    rw [List.length_drop]; omega
  unfold keyR chunk
  by_cases hb : (Utf8.decode s p).1 = 65533 ∧ (Utf8.decode s p).2 < 2
  · have hr := byteAt_range s p
    rw [if_pos hb, if_pos (by dsimp only; omega), show (Utf8.decode s p).2 = 1 by omega, Lib.takeA _ hl]
    congr 1
    have e : (1114112 + byteAt s p - 1114112).toNat = (s.data.toList.getD p 0).toNat := by unfold byteAt; omega
    dsimp only
    rw [e]
    have : (List.drop p s.data.toList).getD 0 0 = s.data.toList.getD p 0 := by simp [List.getD_eq_getElem?_getD]
    rw [this]; simp
  · rw [if_neg hb, if_neg (by dsimp only; omega)]
    have := Lib.encode_decode (s.data.toList.drop p) (List.length_pos_iff.1 hl) (by rw [dec_L]; omega)
    rw [dec_L] at this
    exact this.symm
theorem keys_inj_from {s t : ByteArray} : ∀ (n p q : Nat), s.size - p ≤ n → (runesFrom s p).map (keyR s) = (runesFrom t q).map (keyR t) → s.data.toList.drop p = t.data.toList.drop q := by
  have ls : s.data.toList.length = s.size := by simp
  have lt : t.data.toList.length = t.size := by simp
  intro n
  induction n with
  | zero =>
    intro p q hn h
    rw [runesFrom_end (by omega)] at h
    by_cases hq : q < t.size
    · rw [runesFrom_step hq] at h; simp at h
    · rw [List.drop_of_length_le (by omega), List.drop_of_length_le (by omega)]
  | succ n ih =>
    intro p q hn h
    by_cases hp : p < s.size
    · by_cases hq : q < t.size
      · rw [runesFrom_step hp, runesFrom_step hq] at h
        simp only [List.map_cons, List.cons.injEq] at h
        have h1 := decode_pos s p
        have := ih (p + (Utf8.decode s p).2) (q + (Utf8.decode t q).2) (by omega) h.2
        rw [← List.drop_drop, ← List.drop_drop] at this
        have e1 := key_chunk hp
        have e2 := key_chunk hq
        rw [h.1] at e1
        rw [← List.take_append_drop (Utf8.decode s p).2 (s.data.toList.drop p), e1, this, ← e2, List.take_append_drop]
      · rw [runesFrom_step hp, runesFrom_end (s := t) (by omega)] at h; simp at h
    · rw [runesFrom_end (by omega)] at h
      by_cases hq : q < t.size
      · rw [runesFrom_step hq] at h; simp at h
      · rw [List.drop_of_length_le (by omega), List.drop_of_length_le (by omega)]
theorem keys_inj {s t : ByteArray} (h : keys s = keys t) : s = t := by
  have := keys_inj_from (s := s) (t := t) s.size 0 0 (by omega) (by simpa [keys, runes, runesFrom] using h)
  apply ByteArray.ext
  apply Array.toList_inj.1
  simpa using this
theorem less_irrefl (a : ByteArray) : lessB a a = false := lexB_irrefl _
theorem less_trans {a b c : ByteArray} (h1 : lessB a b = true) (h2 : lessB b c = true) : lessB a c = true := lexB_trans h1 h2
theorem less_tri (a b : ByteArray) : lessB a b = true ∨ a = b ∨ lessB b a = true := by
  rcases lexB_tri (keys a) (keys b) with h | h | h
  · exact .inl h
  · exact .inr (.inl (keys_inj h))
  · exact .inr (.inr h)
theorem less_of_not {a b : ByteArray} (h : lessB a b = false) (hn : a ≠ b) : lessB b a = true := by
  rcases less_tri a b with h' | h' | h'
  · rw [h] at h'; simp at h'
  · exact absurd h' hn
  · exact h'
theorem insH_rise {s : ByteArray} {l : List ByteArray} (h : riseB l) (hs : hasB l s = false) : riseB (insH s l) := by
  have hne : ∀ y ∈ l, s ≠ y := by
    intro y hy
    simp only [hasB, List.any_eq_false, decide_eq_true_eq] at hs
    exact hs y hy
  unfold insH
  unfold riseB at h ⊢
  cases hx : l.findIdx? (fun y => !lessB y s) with
  | none =>
    dsimp only
    rw [List.findIdx?_eq_none_iff] at hx
    rw [List.pairwise_append]
    refine ⟨h, by simp, fun a ha b hb => ?_⟩
    simp only [List.mem_singleton] at hb
    subst hb
    simpa using hx a ha
  | some i =>
    dsimp only
    rw [List.findIdx?_eq_some_iff_getElem] at hx
    obtain ⟨hi, h1, h2⟩ := hx
    have hat : lessB s l[i] = true := less_of_not (by simpa using h1) (fun e => hne _ (List.getElem_mem hi) e.symm)
    have hd : ∀ b ∈ l.drop i, lessB s b = true := by
      intro b hb
      rw [List.drop_eq_getElem_cons hi, List.mem_cons] at hb
      rcases hb with rfl | hb
      · exact hat
      · have hp := h.sublist (List.drop_sublist i l)
        rw [List.drop_eq_getElem_cons hi, List.pairwise_cons] at hp
        exact less_trans hat (hp.1 b hb)
    have ht : ∀ a ∈ l.take i, lessB a s = true := by
      intro a ha
      obtain ⟨j, hj, rfl⟩ := List.getElem_of_mem ha
      simp only [List.length_take] at hj
      have := h2 j (by omega)
      simpa using this
    have hmix : ∀ a ∈ l.take i, ∀ b ∈ l.drop i, lessB a b = true := fun a ha b hb => less_trans (ht a ha) (hd b hb)
    rw [List.pairwise_append, List.pairwise_append]
    refine ⟨⟨h.sublist (List.take_sublist i l), by simp, fun a ha b hb => ?_⟩, h.sublist (List.drop_sublist i l), fun a ha b hb => ?_⟩
    · simp only [List.mem_singleton] at hb; subst hb; exact ht a ha
    · simp only [List.mem_append, List.mem_singleton] at ha
      rcases ha with ha | rfl
      · exact hmix a ha b hb
      · exact hd b hb
theorem insN_perm (x : ByteArray) : ∀ l, (insN x l).Perm (x :: l)
  | [] => List.Perm.refl _
  | y :: l => by
    unfold insN
    split
    · exact List.Perm.refl _
    · exact ((insN_perm x l).cons y).trans (List.Perm.swap x y l)
theorem insN_rise {x : ByteArray} : ∀ {l : List ByteArray}, riseB l → x ∉ l → riseB (insN x l)
  | [], _, _ => by simp [insN, riseB]
  | y :: l, h, hx => by
    unfold insN
    unfold riseB at h ⊢
    simp only [List.mem_cons, not_or] at hx
    split
    · rename_i hl
      rw [List.pairwise_cons]
      refine ⟨fun b hb => ?_, h⟩
      rcases List.mem_cons.1 hb with rfl | hb
      · exact hl
      · exact less_trans hl ((List.pairwise_cons.1 h).1 b hb)
    · rename_i hl
      have hyx := less_of_not (by simpa using hl) hx.1
      rw [List.pairwise_cons] at h ⊢
      refine ⟨fun b hb => ?_, insN_rise h.2 hx.2⟩
      rcases List.mem_cons.1 ((insN_perm x l).mem_iff.1 hb) with rfl | hb
      · exact hyx
      · exact h.1 b hb
theorem sortN_go : ∀ (l acc : List ByteArray), (l.foldl (fun acc x => insN x acc) acc).Perm (l ++ acc) ∧ (riseB acc → (l ++ acc).Nodup → riseB (l.foldl (fun acc x => insN x acc) acc))
  | [], acc => ⟨List.Perm.refl _, fun h _ => h⟩
  | x :: l, acc => by
    obtain ⟨h1, h2⟩ := sortN_go l (insN x acc)
    have hp : (l ++ insN x acc).Perm (x :: l ++ acc) := ((insN_perm x acc).append_left l).trans List.perm_middle
    refine ⟨h1.trans hp, fun hr hn => h2 (insN_rise hr ?_) (hp.nodup_iff.2 hn)⟩
    simp only [List.cons_append, List.nodup_cons, List.mem_append, not_or] at hn
    exact hn.1.2
theorem sortN_perm (l : List ByteArray) : (sortN l).Perm l := by simpa [sortN] using (sortN_go l []).1
theorem sortN_rise {l : List ByteArray} (h : l.Nodup) : riseB (sortN l) := (sortN_go l []).2 List.Pairwise.nil (by simpa using h)
theorem rise_eq : ∀ {a b : List ByteArray}, riseB a → riseB b → a.Perm b → a = b
  | [], b, _, _, h => by simpa using h.symm.eq_nil
  | x :: a, [], _, _, h => by simpa using h.eq_nil
  | x :: a, y :: b, ha, hb, h => by
    have ha' := List.pairwise_cons.1 ha
    have hb' := List.pairwise_cons.1 hb
    have hxy : x = y := by
      rcases List.mem_cons.1 (h.mem_iff.1 (List.mem_cons_self ..)) with e | hx
      · exact e
      rcases List.mem_cons.1 (h.mem_iff.2 (List.mem_cons_self ..)) with e | hy
      · exact e.symm
      have := less_trans (hb'.1 x hx) (ha'.1 y hy)
      rw [less_irrefl] at this; simp at this
    subst hxy
    rw [rise_eq ha'.2 hb'.2 (List.Perm.cons_inv h)]
end Go.AM.SD
namespace Go.AM.SD
open Go Go.AM
theorem FlOk.mono {f : Fl} {a b : Int} (h : FlOk f a) (hab : a ≤ b) : FlOk f b := { h with id1 := by have := h.id1; omega }
theorem deed_keeps {f : Fl} {o : Mo} {floor last : Int} (hf : FlOk f last) (ho : MoOk o) (h0 : (deedF f o floor).2 = 0) (h6 : o.kind ≠ 6) :
    (deedF f o floor).1.id = f.id ∧ (deedF f o floor).1.name = f.name ∧ FlOk (deedF f o floor).1 last := by
  unfold deedF at h0 ⊢
  by_cases k0 : o.kind = 0
  · rw [if_pos k0] at h0; simp at h0
  rw [if_neg k0] at h0 ⊢
  by_cases k1 : o.kind = 1
  · rw [if_pos k1] at h0 ⊢
    unfold appendF at h0 ⊢
    split at h0
    · simp at h0
    split at h0
    · simp at h0
    split at h0
    · simp at h0
    rename_i h1 h2 h3
    rw [if_neg h1, if_neg h2, if_neg h3]
    refine ⟨rfl, rfl, { hf with data := ?_ }⟩
    show (f.data ++ o.text).size ≤ 600
    rw [ByteArray.size_append]; omega
  rw [if_neg k1] at h0 ⊢
  by_cases k2 : o.kind = 2
  · rw [if_pos k2] at h0 ⊢
    unfold sealF at h0 ⊢
    split at h0
    · simp at h0
    split at h0
    · simp at h0
    rename_i h1 h2
    rw [if_neg h1, if_neg h2]
    simp only [timely, Bool.not_eq_false, Bool.and_eq_true, decide_eq_true_eq] at h2
    exact ⟨rfl, rfl, { hf with until0 := h2.1, until1 := h2.2, opn := fun h => by simp at h }⟩
  rw [if_neg k2] at h0 ⊢
  by_cases k3 : o.kind = 3
  · rw [if_pos k3] at h0 ⊢
    unfold extendF at h0 ⊢
    split at h0
    · simp at h0
    split at h0
    · simp at h0
    split at h0
    · simp at h0
    rename_i h1 h2 h3
    rw [if_neg h1, if_neg h2, if_neg h3]
    simp only [timely, Bool.not_eq_false, Bool.and_eq_true, decide_eq_true_eq] at h2
    exact ⟨rfl, rfl, { hf with until0 := h2.1, until1 := h2.2, opn := fun h => absurd h h1 }⟩
  rw [if_neg k3] at h0 ⊢
  by_cases k4 : o.kind = 4
  · rw [if_pos k4] at h0 ⊢
    unfold holdF at h0 ⊢
    repeat' split at h0
    all_goals first | (simp at h0; done) | skip
    rename_i g1 g2 g3 g4
    rw [if_neg g1, if_neg g2, if_neg g3, if_neg g4]
    refine ⟨rfl, rfl, { hf with hold := ?_, hsz := ?_, hname := ?_, rise := ?_, nil := by simp, opn := fun h => absurd h g1 }⟩
    · show (insH _ _).length ≤ 4
      rw [insH_len]; omega
    · intro s hs
      rcases insH_mem hs with rfl | hs
      · exact ho.text
      · exact hf.hsz s hs
    · intro s hs
      rcases insH_mem hs with rfl | hs
      · simpa using g2
      · exact hf.hname s hs
    · exact insH_rise hf.rise (by simpa using g3)
  rw [if_neg k4] at h0 ⊢
  by_cases k5 : o.kind = 5
  · rw [if_pos k5] at h0 ⊢
    unfold releaseF at h0 ⊢
    split at h0
    · rename_i i hi
      have hsub := List.eraseIdx_sublist f.holds i
      refine ⟨rfl, rfl, { hf with hold := Nat.le_trans hsub.length_le hf.hold, hsz := fun s hs => hf.hsz s (hsub.mem hs), hname := fun s hs => hf.hname s (hsub.mem hs), rise := hf.rise.sublist hsub, nil := fun h => ?_, opn := fun h => ⟨(hf.opn h).1, ?_⟩ }⟩
      · show f.holds.eraseIdx i = []
        rw [hf.nil h]; rfl
      · show f.holds.eraseIdx i = []
        rw [(hf.opn h).2]; rfl
    · simp at h0
  rw [if_neg k5, if_neg h6] at h0
  simp at h0
theorem findM_is {s : St} {n : ByteArray} {i : Nat} (h : findM s n = some i) : ∃ hi : i < s.files.length, s.files[i].name = n := by
  obtain ⟨hi, h⟩ := findIdx_is h
  exact ⟨hi, by simpa using h⟩
theorem pairwise_set {α : Type} {R : α → α → Prop} {l : List α} {i : Nat} {x : α} (hi : i < l.length) (h : l.Pairwise R) (h1 : ∀ a, R a l[i] → R a x) (h2 : ∀ a, R l[i] a → R x a) : (l.set i x).Pairwise R := by
  rw [List.pairwise_iff_getElem] at h ⊢
  intro a b ha hb hab
  simp only [List.length_set] at ha hb
  have := h a b ha hb hab
  simp only [List.getElem_set]
  split
  · rename_i e; subst e
    rw [if_neg (by omega)]
    exact h2 _ this
  · split
    · rename_i e; subst e; exact h1 _ this
    · exact this
theorem create_ok {s : St} {o : Mo} (hs : StOk s) (ho : MoOk o) : StOk (createM s o).st := by
  unfold createM
  split
  · exact hs
  split
  · exact hs
  split
  · exact hs
  split
  · exact hs
  rename_i h1 h2 h3 h4
  have l0 := hs.last0
  have hnew : FlOk ⟨s.last + 1, o.name, bs [], false, 0, false, []⟩ (s.last + 1) :=
    { id0 := by show 1 ≤ s.last + 1; omega, id1 := Int.le_refl _, name := by simpa using h1, nsz := ho.name, data := by show (bs []).size ≤ 600; decide, until0 := by simp, until1 := by simp, hold := by simp, hsz := by simp, hname := by simp, rise := List.Pairwise.nil, nil := fun _ => rfl, opn := fun _ => ⟨rfl, rfl⟩ }
  have hno : ∀ f ∈ s.files, f.name ≠ o.name := by
    intro f hf e
    refine h2 (findI_nonneg.2 ?_)
    simp only [List.any_eq_true, decide_eq_true_eq]
    exact ⟨f, hf, e⟩
  refine { len := by simp; omega, nil := by simp, last0 := by show 0 ≤ s.last + 1; omega, last1 := by show s.last + 1 ≤ _; omega, floor0 := hs.floor0, floor1 := hs.floor1, files := ?_, rise := ?_, names := ?_ }
  · intro f hf
    simp only [List.mem_append, List.mem_singleton] at hf
    rcases hf with hf | rfl
    · exact (hs.files f hf).mono (by show s.last ≤ s.last + 1; omega)
    · exact hnew
  · rw [List.pairwise_append]
    refine ⟨hs.rise, by simp, fun a ha b hb => ?_⟩
    simp only [List.mem_singleton] at hb; subst hb
    have := (hs.files a ha).id1
    show a.id < s.last + 1
    omega
  · rw [List.pairwise_append]
    refine ⟨hs.names, by simp, fun a ha b hb => ?_⟩
    simp only [List.mem_singleton] at hb; subst hb
    exact hno a ha
theorem erase_ok {s : St} (hs : StOk s) {l : List Fl} (hl : l.Sublist s.files) : StOk { s with files := l } :=
  { len := Nat.le_trans hl.length_le hs.len
    nil := fun h => by have := hs.nil h; rw [this] at hl; exact List.sublist_nil.1 hl
    last0 := hs.last0, last1 := hs.last1, floor0 := hs.floor0, floor1 := hs.floor1
    files := fun f hf => hs.files f (hl.mem hf)
    rise := hs.rise.sublist hl, names := hs.names.sublist hl }
theorem change_ok {sum : ByteArray → List Int} {s : St} {o : Mo} (hs : StOk s) (ho : MoOk o) : StOk (changeM sum s o).st := by
  unfold changeM
  split
  · exact hs
  rename_i i hi
  split
  · exact hs
  rename_i f hf
  obtain ⟨hl, rfl⟩ := List.getElem?_eq_some_iff.1 hf
  split
  · rename_i h0
    split
    · exact erase_ok hs (List.eraseIdx_sublist s.files i)
    · rename_i h6
      have hd : (deedF s.files[i] o s.floor).2 = 0 := by
        unfold fileDo at h0
        split at h0
        · assumption
        · exact h0
      obtain ⟨e1, e2, e3⟩ := deed_keeps (hs.files _ (List.getElem_mem hl)) ho hd h6
      have hfd : (fileDo sum s.files[i] o s.floor).1 = (deedF s.files[i] o s.floor).1 := by unfold fileDo; rw [if_pos hd]
      rw [hfd]
      refine { len := by simpa using hs.len, nil := fun h => ?_, last0 := hs.last0, last1 := hs.last1, floor0 := hs.floor0, floor1 := hs.floor1, files := fun f hf => ?_, rise := ?_, names := ?_ }
      · exact absurd hl (by rw [hs.nil h]; simp)
      · rcases List.mem_or_eq_of_mem_set hf with hf | rfl
        · exact hs.files f hf
        · exact e3
      · exact pairwise_set hl hs.rise (fun a h => by rw [e1]; exact h) (fun a h => by rw [e1]; exact h)
      · exact pairwise_set hl hs.names (fun a h => by rw [e2]; exact h) (fun a h => by rw [e2]; exact h)
  · exact hs
theorem floorN_range {f t : Int} (h0 : 0 ≤ f) (h1 : f ≤ 1099511627776) : f ≤ floorN f t ∧ floorN f t ≤ 1099511627776 := by
  unfold floorN; omega
theorem tick_ok {s : St} {o : Mo} (hs : StOk s) : StOk (tickM s o).st := by
  unfold tickM
  split
  · exact hs
  · have := floorN_range (t := o.time) hs.floor0 hs.floor1
    have h0 := hs.floor0
    exact { hs with floor0 := by show 0 ≤ floorN _ _; omega, floor1 := this.2 }
theorem do_ok {sum : ByteArray → List Int} {s : St} {o : Mo} (hs : StOk s) (ho : MoOk o) : StOk (doM sum s o).st := by
  unfold doM
  repeat' split
  · exact hs
  · exact hs
  · exact create_ok hs ho
  · exact tick_ok hs
  · exact erase_ok hs (List.filter_sublist)
  · unfold readM; repeat' split
    all_goals exact hs
  · unfold statM; repeat' split
    all_goals exact hs
  · exact hs
  · exact change_ok hs ho
structure Run where
  st : St
  nnA : Bool
  ans : List An
  nnE : Bool
  evs : List Ev
def runFrom (sum : ByteArray → List Int) : List Mo → Run → Run
  | [], r => r
  | o :: l, r => runFrom sum l ⟨(doM sum r.st o).st, true, r.ans ++ [(doM sum r.st o).an], r.nnE || !(doM sum r.st o).evs.isEmpty, r.evs ++ (doM sum r.st o).evs⟩
def run0 (s : St) : Run := ⟨s, false, [], false, []⟩
def runM (sum : ByteArray → List Int) (s : St) (l : List Mo) : Run := runFrom sum l (run0 s)
def emptyS : St := ⟨false, [], 0, 0⟩
theorem emptyS_ok : StOk emptyS := ⟨by simp [emptyS], fun _ => rfl, by simp [emptyS], by simp [emptyS], by simp [emptyS], by simp [emptyS], by simp [emptyS], List.Pairwise.nil, List.Pairwise.nil⟩
theorem runFrom_ok {sum : ByteArray → List Int} : ∀ {l : List Mo} {r : Run}, StOk r.st → (∀ o ∈ l, MoOk o) → StOk (runFrom sum l r).st
  | [], _, h, _ => h
  | o :: l, r, h, hl => runFrom_ok (l := l) (do_ok h (hl o (by simp))) fun o' h' => hl o' (by simp [h'])
end Go.AM.SD
namespace Go.AM.SD
open Go Go.AM
@[simp] theorem bs_size : (bs []).size = 0 := rfl
@[simp] theorem ba_beq (a : ByteArray) : (a == a) = true := by
  cases a; rename_i d
  show (d == d) = true
  simp
def atName (s : St) (n : ByteArray) : Option Fl := s.files.find? fun f => decide (f.name = n)
theorem findM_at {s : St} {n : ByteArray} {i : Nat} (h : findM s n = some i) : ∃ hi : i < s.files.length, atName s n = some s.files[i] := by
  unfold findM at h
  rw [List.findIdx?_eq_some_iff_getElem] at h
  obtain ⟨hi, h1, h2⟩ := h
  refine ⟨hi, ?_⟩
  unfold atName
  rw [List.find?_eq_some_iff_getElem]
  exact ⟨h1, i, hi, rfl, fun j hj => by have := h2 j hj; simpa using this⟩
theorem findM_no {s : St} {n : ByteArray} : findM s n = none ↔ atName s n = none := by
  unfold findM atName
  rw [List.findIdx?_eq_none_iff, List.find?_eq_none]
  simp
theorem find_erase {α : Type} {p : α → Bool} {l : List α} {i : Nat} (hi : i < l.length) (h : p l[i] = false) : (l.eraseIdx i).find? p = l.find? p := by
  have e : l = l.take i ++ l[i] :: l.drop (i + 1) := by simp
  rw [List.eraseIdx_eq_take_drop_succ]
  conv => rhs; rw [e]
  rw [List.find?_append, List.find?_append, List.find?_cons, h]
theorem find_set {α : Type} {p : α → Bool} {l : List α} {i : Nat} {x : α} (hi : i < l.length) (h : p l[i] = false) (hx : p x = false) : (l.set i x).find? p = l.find? p := by
  have e : l = l.take i ++ l[i] :: l.drop (i + 1) := by simp
  rw [List.set_eq_take_append_cons_drop, if_pos hi]
  conv => rhs; rw [e]
  rw [List.find?_append, List.find?_append, List.find?_cons, List.find?_cons, h, hx]
theorem fileDo_name {sum : ByteArray → List Int} {f : Fl} {o : Mo} {floor last : Int} (hf : FlOk f last) (ho : MoOk o) (h0 : (fileDo sum f o floor).2.2 = 0) :
    (deedF f o floor).2 = 0 ∧ (fileDo sum f o floor).1 = (deedF f o floor).1 ∧ (fileDo sum f o floor).2.1 = tellE sum f o := by
  have hd : (deedF f o floor).2 = 0 := by
    unfold fileDo at h0
    split at h0
    · assumption
    · exact h0
  unfold fileDo
  rw [if_pos hd]
  exact ⟨hd, rfl, rfl⟩
theorem apart {sum : ByteArray → List Int} {s : St} {o : Mo} {n : ByteArray} (hs : StOk s) (ho : MoOk o) (hn : o.name ≠ n) (h8 : o.kind ≠ 8) : atName (doM sum s o).st n = atName s n := by
  unfold doM
  split
  · rfl
  split
  · rfl
  split
  · unfold createM
    repeat' split
    all_goals first | rfl | skip
    show (s.files ++ [_]).find? _ = _
    rw [List.find?_append]
    simp only [List.find?_cons, hn, decide_false, List.find?_nil, Option.or_none]
    rfl
  split
  · unfold tickM
    split <;> rfl
  split
  · unfold readM; repeat' split
    all_goals rfl
  split
  · unfold statM; repeat' split
    all_goals rfl
  split
  · rfl
  · unfold changeM
    split
    · rfl
    rename_i i hi
    split
    · rfl
    rename_i f hf
    obtain ⟨hl, rfl⟩ := List.getElem?_eq_some_iff.1 hf
    obtain ⟨_, hnm⟩ := findM_is hi
    have hp : decide (s.files[i].name = n) = false := by rw [hnm]; simpa using hn
    split
    · rename_i h0
      obtain ⟨hd, e1, _⟩ := fileDo_name (hs.files _ (List.getElem_mem hl)) ho h0
      split
      · exact find_erase hl hp
      · rename_i h6
        have hk := deed_keeps (hs.files _ (List.getElem_mem hl)) ho hd h6
        exact find_set hl hp (by rw [e1, hk.2.1]; exact hp)
    · rfl
theorem evEq_self (e : Ev) : evEq e e = true := by simp [evEq]
end Go.AM.SD
namespace Go.AM.SD
open Go Go.AM
theorem find_set_hit {α : Type} {p : α → Bool} {l : List α} {i : Nat} {x : α} (hi : i < l.length) (h : ∀ j (hj : j < i), p (l[j]'(by omega)) = false) (hx : p x = true) : (l.set i x).find? p = some x := by
  rw [List.find?_eq_some_iff_getElem]
  refine ⟨hx, i, by simpa using hi, by simp, fun j hj => ?_⟩
  rw [List.getElem_set_ne (by omega)]
  rw [h j hj]; rfl
theorem find_filter {α : Type} {p q : α → Bool} {x : α} : ∀ {l : List α}, l.find? p = some x → q x = true → (l.filter q).find? p = some x
  | [], h, _ => by simp at h
  | y :: l, h, hq => by
    rw [List.find?_cons] at h
    split at h
    · simp only [Option.some.injEq] at h; subst h
      rename_i hp
      rw [List.filter_cons, if_pos hq, List.find?_cons, hp]
    · rename_i hp
      rw [List.filter_cons]
      split
      · rw [List.find?_cons, hp]; exact find_filter h hq
      · exact find_filter h hq
theorem at_findM {s : St} {n : ByteArray} {f : Fl} (h : atName s n = some f) : ∃ i, ∃ hi : i < s.files.length, findM s n = some i ∧ s.files[i] = f ∧ f.name = n := by
  cases hx : findM s n with
  | none => rw [findM_no.1 hx] at h; simp at h
  | some i =>
    obtain ⟨hi, h'⟩ := findM_at hx
    obtain ⟨_, hnm⟩ := findM_is hx
    rw [h', Option.some.injEq] at h
    exact ⟨i, hi, rfl, h, by rw [← h]; exact hnm⟩
theorem do_keeps {sum : ByteArray → List Int} {s : St} {o : Mo} {n : ByteArray} {f : Fl} (hs : StOk s) (ho : MoOk o) (hf : atName s n = some f) (hse : f.sealed = true) (hm : mayN f s.floor ≠ 0) :
    ∃ f', atName (doM sum s o).st n = some f' ∧ f'.id = f.id ∧ f'.sealed = true ∧ f'.data = f.data := by
  by_cases hn : o.name = n
  case neg =>
    by_cases h8 : o.kind = 8
    · refine ⟨f, ?_, rfl, hse, rfl⟩
      unfold doM
      rw [if_neg (by omega), if_neg (by omega), if_neg (by omega), if_neg (by omega), if_pos h8]
      exact find_filter hf (by simpa using hm)
    · rw [apart hs ho hn h8]; exact ⟨f, hf, rfl, hse, rfl⟩
  obtain ⟨i, hi, hx, he, hnm⟩ := at_findM hf
  unfold doM
  split
  · exact ⟨f, hf, rfl, hse, rfl⟩
  split
  · exact ⟨f, hf, rfl, hse, rfl⟩
  split
  · unfold createM
    have : 0 ≤ findI (fun f : Fl => decide (f.name = o.name)) s.files := by
      refine findI_nonneg.2 ?_
      simp only [List.any_eq_true, decide_eq_true_eq]
      exact ⟨f, by rw [← he]; exact List.getElem_mem hi, by rw [hnm, hn]⟩
    split
    · exact ⟨f, hf, rfl, hse, rfl⟩
    exact ⟨f, hf, rfl, hse, rfl⟩
  split
  · unfold tickM
    split
    · exact ⟨f, hf, rfl, hse, rfl⟩
    · exact ⟨f, hf, rfl, hse, rfl⟩
  split
  · exact ⟨f, find_filter hf (by simpa using hm), rfl, hse, rfl⟩
  split
  · unfold readM; repeat' split
    all_goals exact ⟨f, hf, rfl, hse, rfl⟩
  split
  · unfold statM; repeat' split
    all_goals exact ⟨f, hf, rfl, hse, rfl⟩
  split
  · exact ⟨f, hf, rfl, hse, rfl⟩
  · unfold changeM
    rw [hn, hx]
    dsimp only
    rw [List.getElem?_eq_getElem hi, he]
    dsimp only
    split
    · rename_i h0
      have hk := hs.files f (by rw [← he]; exact List.getElem_mem hi)
      obtain ⟨hd, e1, _⟩ := fileDo_name hk ho h0
      split
      · rename_i h6
        unfold deedF at hd
        rw [if_neg (by omega), if_neg (by omega), if_neg (by omega), if_neg (by omega), if_neg (by omega), if_neg (by omega), if_pos h6] at hd
        exact absurd hd hm
      · rename_i h6
        have hkk := deed_keeps hk ho hd h6
        have hfirst : ∀ j (hj : j < i), decide ((s.files[j]'(by omega)).name = n) = false := by
          unfold findM at hx
          rw [List.findIdx?_eq_some_iff_getElem] at hx
          obtain ⟨_, _, h2⟩ := hx
          intro j hj
          have := h2 j hj
          simpa using this
        refine ⟨_, find_set_hit hi hfirst (by rw [e1, hkk.2.1, hnm]; simp), by rw [e1]; exact hkk.1, ?_, ?_⟩
        all_goals
          rw [e1]
          unfold deedF at hd ⊢
          by_cases k0 : o.kind = 0
          · rw [if_pos k0] at hd; simp at hd
          rw [if_neg k0] at hd ⊢
          by_cases k1 : o.kind = 1
          · rw [if_pos k1] at hd; unfold appendF at hd; rw [if_pos hse] at hd; simp at hd
          rw [if_neg k1] at hd ⊢
          by_cases k2 : o.kind = 2
          · rw [if_pos k2] at hd; unfold sealF at hd; rw [if_pos hse] at hd; simp at hd
          rw [if_neg k2] at hd ⊢
          by_cases k3 : o.kind = 3
          · rw [if_pos k3]; unfold extendF; repeat' split
            all_goals first | exact hse | rfl
          rw [if_neg k3] at hd ⊢
          by_cases k4 : o.kind = 4
          · rw [if_pos k4]; unfold holdF; repeat' split
            all_goals first | exact hse | rfl
          rw [if_neg k4] at hd ⊢
          by_cases k5 : o.kind = 5
          · rw [if_pos k5]; unfold releaseF; split
            all_goals first | exact hse | rfl
          rw [if_neg k5, if_neg h6] at hd; simp at hd
    · exact ⟨f, hf, rfl, hse, rfl⟩
end Go.AM.SD
