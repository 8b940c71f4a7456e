/- Part 14 of the proof: the abstract machine, what the functions compute, and plain laws over that. -/
import Derived.Test.YtonknblidjpfeaaGreatDoorMz13
set_option linter.all false
set_option linter.unusedSimpArgs false
set_option linter.unusedVariables false
set_option linter.unusedSectionVars false
namespace Go.AM.SZ
open Go Go.AM Go.Proofs Go.RowKit
namespace F4
def cons : List (Nat × Con) := [(7, F7.c), (14, F14.c), (15, F15.c), (16, F16.c), (17, F17.c), (18, F18.c)]
def exts : List (Nat × Ext) := []
def h : List (Nat × Nat × Hint) := [(4, 10, { live := [0, 3, 5, 6, 7], rows := [], own := false, inpl := false }), (4, 14, { live := [0, 3, 5, 6, 7, 8, 10, 11], rows := [], own := false, inpl := false })]
noncomputable def e (M : Nat) : Env := env cons exts h M
noncomputable def t4_0 (_ : Nat) : List Ent := []
theorem t4_0_ok (M : Nat) : AllOk (e M) (tblOf (t4_0 M)) := AllOk.nil
structure S14_11_0 where
  d52 : D
  d53 : D
  i54 : Int
  d55 : D
  i56 : Int
  d57 : D
  d58 : D
  d59 : D
  d60 : D
inductive X14_11_0 where
  | e0 (d52 : D) (d53 : D) (i54 : Int) (d55 : D) (i56 : Int) (d57 : D) (d58 : D) (d59 : D) (d60 : D) (r61 : D)
  | e1 (d52 : D) (d53 : D) (i54 : Int) (d55 : D) (i56 : Int) (d57 : D) (d58 : D) (d59 : D) (d60 : D)
def st14_11_0 (M : Nat) : S14_11_0 → (S14_11_0 → Option D) → (X14_11_0 → Option D) → Option D
  | ⟨d52, d53, i54, d55, i56, d57, d58, d59, d60⟩, rec, K => (cond (ltI i56 (nI d55.elems.length)) (cond (inb i56 d55.elems.length) (bd (F16.s FUEL d58 (ix d55.elems i56.toNat)) fun r61 => (cond (neI (r61.at 1).i 0) (K (.e0 d52 d53 i54 d55 i56 d57 d58 d59 d60 r61)) (rec ⟨d52, d53, i54, d55, (ad .i64 i56 1), d57, (r61.at 0), d59, d60⟩))) none) (K (.e1 d52 d53 i54 d55 i56 d57 d58 d59 d60)))
def lv14_11_0 : S14_11_0 → List Leaf
  | ⟨d52, d53, i54, d55, i56, d57, d58, d59, d60⟩ => [.d d52, .d d53, .i i54, .d d55, .i i56, .d d57, .d d58, .d d59, .d d60]
def of14_11_0 : List Leaf → Option S14_11_0
  | [.d d52, .d d53, .i i54, .d d55, .i i56, .d d57, .d d58, .d d59, .d d60] => some ⟨d52, d53, i54, d55, i56, d57, d58, d59, d60⟩
  | _ => none
def ex14_11_0 (k : Kont) : X14_11_0 → Option D
  | .e0 d52 d53 i54 d55 i56 d57 d58 d59 d60 r61 => k .ret ((.d (.slice 52) d52) :: (us 1 ((.d .bool (db false)) :: ((.d .bool d53) :: (us 1 ((.ptr 0 [] (.struct [25, 3, 3])) :: ((.ptr 1 [] (.struct [45, 3, 3])) :: ((.d (.int .i64) (di i54)) :: ((.ptr 2 [] (.struct [25, 3, 3])) :: (us 1 ((.d (.slice 58) d55) :: ((.d (.int .i64) (di i56)) :: ((.ptr 4 [] (.struct [45, 3, 3])) :: ((.d (.int .i64) (r61.at 1)) :: (us 26 ((.d (.int .i64) (di i56)) :: ((.d (.slice 58) d55) :: ((.d (.int .i64) (di (nI d55.elems.length))) :: ((.d .bool (db (ltI i56 (nI d55.elems.length)))) :: (us 2 ((.dtup [(.struct [45, 3, 3]), (.int .i64)] r61) :: ((.d (.struct [45, 3, 3]) d58) :: ((.d (.slice 58) d55) :: ((.d (.int .i64) (di i56)) :: ((.cptr (.struct [50, 3, 9, 3, 3, 56]) (ix d55.elems i56.toNat)) :: ((.d (.struct [50, 3, 9, 3, 3, 56]) (ix d55.elems i56.toNat)) :: ((.dtup [(.struct [45, 3, 3]), (.int .i64)] r61) :: ((.d (.struct [45, 3, 3]) (r61.at 0)) :: ((.d (.int .i64) (r61.at 1)) :: ((.d (.int .i64) (r61.at 1)) :: ((.d .bool (db (neI (r61.at 1).i 0))) :: (us 8 [])))))))))))))))))))))))))))))))) [(.var (.struct [25, 3, 3]) (.d (.struct [25, 3, 3]) d57)), (.var (.struct [45, 3, 3]) (.d (.struct [45, 3, 3]) d58)), (.var (.struct [25, 3, 3]) (.d (.struct [25, 3, 3]) d59)), (.var (.struct [36, 3, 9, 39, 37]) (.d (.struct [36, 3, 9, 39, 37]) d60)), (.var (.struct [45, 3, 3]) (.d (.struct [45, 3, 3]) (r61.at 0)))]
  | .e1 d52 d53 i54 d55 i56 d57 d58 d59 d60 => k (.exit 2) ((.d (.slice 52) d52) :: (us 2 ((.d .bool d53) :: (us 1 ((.ptr 0 [] (.struct [25, 3, 3])) :: ((.ptr 1 [] (.struct [45, 3, 3])) :: ((.d (.int .i64) (di i54)) :: ((.ptr 2 [] (.struct [25, 3, 3])) :: (us 1 ((.d (.slice 58) d55) :: ((.d (.int .i64) (di i56)) :: (us 28 ((.d (.int .i64) (di i56)) :: ((.d (.slice 58) d55) :: ((.d (.int .i64) (di (nI d55.elems.length))) :: ((.d .bool (db (ltI i56 (nI d55.elems.length)))) :: (us 21 []))))))))))))))))) [(.var (.struct [25, 3, 3]) (.d (.struct [25, 3, 3]) d57)), (.var (.struct [45, 3, 3]) (.d (.struct [45, 3, 3]) d58)), (.var (.struct [25, 3, 3]) (.d (.struct [25, 3, 3]) d59)), (.var (.struct [36, 3, 9, 39, 37]) (.d (.struct [36, 3, 9, 39, 37]) d60))]
def ps14_11_0 : List PV := ((.d (.slice 52) .x) :: (up 2 ((.d .bool .x) :: (up 1 ((.ptr 0 [] (.struct [25, 3, 3])) :: ((.ptr 1 [] (.struct [45, 3, 3])) :: ((.d (.int .i64) (.int .i64)) :: ((.ptr 2 [] (.struct [25, 3, 3])) :: (up 1 ((.d (.slice 58) .x) :: ((.d (.int .i64) (.int .i64)) :: (up 53 []))))))))))))
def qs14_11_0 : List PO := [(.var (.struct [25, 3, 3]) (.d (.struct [25, 3, 3]) .x)), (.var (.struct [45, 3, 3]) (.d (.struct [45, 3, 3]) .x)), (.var (.struct [25, 3, 3]) (.d (.struct [25, 3, 3]) .x)), (.var (.struct [36, 3, 9, 39, 37]) (.d (.struct [36, 3, 9, 39, 37]) .x))]
noncomputable def sum14_11_0 (M : Nat) : Sum := sumS [0, 3, 5, 6, 7, 8, 10, 11] ps14_11_0 qs14_11_0 [] of14_11_0 (st14_11_0 M) ex14_11_0 M
theorem sok14_11_0 (M : Nat) : SumOk (loopRd (e M) 4 14) (e M) (call (e M) 11) 4 0 (loopAt (e M) 4 14) (sum14_11_0 M) :=
  sumOk_st (T := tblOf (t4_0 M)) (n0 := 4) (lv := lv14_11_0) (t4_0_ok M) (by kernel_rfl) rfl (by intro ls s h; unfold of14_11_0 at h; (repeat' split at h) <;> simp at h; subst h; rfl) (by intro s; kernel_rfl) (by intro s; kernel_rfl) (by intro s nx k; kernel_rfl)
noncomputable def t4_1 (M : Nat) : List Ent := ⟨4, 11, 0, 14, sum14_11_0 M⟩ :: t4_0 M
theorem t4_1_ok (M : Nat) : AllOk (e M) (tblOf (t4_1 M)) := (t4_0_ok M).add ⟨4, 11, 0, 14, sum14_11_0 M⟩ (by kernel_rfl) (sok14_11_0 M)
structure S10 where
  d46 : D
  d47 : D
  i48 : Int
  d49 : D
  d50 : D
inductive X10 where
  | e0 (d52 : D) (d53 : D) (i54 : Int) (d55 : D) (i56 : Int) (d57 : D) (d58 : D) (d59 : D) (d60 : D) (r61 : D)
  | e1 (d52 : D) (d53 : D) (i54 : Int) (d55 : D) (i56 : Int) (d57 : D) (d58 : D) (d59 : D) (d60 : D) (r62 : D) (r63 : D)
  | e2 (d46 : D) (d47 : D) (i48 : Int) (d49 : D) (d50 : D)
def st10 (M : Nat) : S10 → (S10 → Option D) → (X10 → Option D) → Option D
  | ⟨d46, d47, i48, d49, d50⟩, rec, K => (cond (ltI i48 (nI d46.elems.length)) (cond (inb i48 d46.elems.length) (bd (F15.s FUEL d49 (ix d46.elems i48.toNat)) fun r51 => (goS (st14_11_0 M) M ⟨d46, d47, i48, (r51.at 2), 0, d49, d50, (r51.at 0), (r51.at 1)⟩ fun x => match x with | .e0 d52 d53 i54 d55 i56 d57 d58 d59 d60 r61 => (K (.e0 d52 d53 i54 d55 i56 d57 d58 d59 d60 r61)) | .e1 d52 d53 i54 d55 i56 d57 d58 d59 d60 => (bd (F18.s FUEL d59) fun r62 => (bd (F17.s FUEL d58 r62) fun r63 => (cond (!r63.b) (K (.e1 d52 d53 i54 d55 i56 d57 d58 d59 d60 r62 r63)) (rec ⟨d52, d53, (ad .i64 i54 1), d59, d58⟩)))))) none) (K (.e2 d46 d47 i48 d49 d50)))
def lv10 : S10 → List Leaf
  | ⟨d46, d47, i48, d49, d50⟩ => [.d d46, .d d47, .i i48, .d d49, .d d50]
def of10 : List Leaf → Option S10
  | [.d d46, .d d47, .i i48, .d d49, .d d50] => some ⟨d46, d47, i48, d49, d50⟩
  | _ => none
def ex10 (k : Kont) : X10 → Option D
  | .e0 d52 d53 i54 d55 i56 d57 d58 d59 d60 r61 => k .ret ((.d (.slice 52) d52) :: (us 1 ((.d .bool (db false)) :: ((.d .bool d53) :: (us 1 ((.ptr 0 [] (.struct [25, 3, 3])) :: ((.ptr 1 [] (.struct [45, 3, 3])) :: ((.d (.int .i64) (di i54)) :: ((.ptr 2 [] (.struct [25, 3, 3])) :: (us 1 ((.d (.slice 58) d55) :: ((.d (.int .i64) (di i56)) :: ((.ptr 4 [] (.struct [45, 3, 3])) :: ((.d (.int .i64) (r61.at 1)) :: (us 26 ((.d (.int .i64) (di i56)) :: ((.d (.slice 58) d55) :: ((.d (.int .i64) (di (nI d55.elems.length))) :: ((.d .bool (db (ltI i56 (nI d55.elems.length)))) :: (us 2 ((.dtup [(.struct [45, 3, 3]), (.int .i64)] r61) :: ((.d (.struct [45, 3, 3]) d58) :: ((.d (.slice 58) d55) :: ((.d (.int .i64) (di i56)) :: ((.cptr (.struct [50, 3, 9, 3, 3, 56]) (ix d55.elems i56.toNat)) :: ((.d (.struct [50, 3, 9, 3, 3, 56]) (ix d55.elems i56.toNat)) :: ((.dtup [(.struct [45, 3, 3]), (.int .i64)] r61) :: ((.d (.struct [45, 3, 3]) (r61.at 0)) :: ((.d (.int .i64) (r61.at 1)) :: ((.d (.int .i64) (r61.at 1)) :: ((.d .bool (db (neI (r61.at 1).i 0))) :: (us 8 [])))))))))))))))))))))))))))))))) [(.var (.struct [25, 3, 3]) (.d (.struct [25, 3, 3]) d57)), (.var (.struct [45, 3, 3]) (.d (.struct [45, 3, 3]) d58)), (.var (.struct [25, 3, 3]) (.d (.struct [25, 3, 3]) d59)), (.var (.struct [36, 3, 9, 39, 37]) (.d (.struct [36, 3, 9, 39, 37]) d60)), (.var (.struct [45, 3, 3]) (.d (.struct [45, 3, 3]) (r61.at 0)))]
  | .e1 d52 d53 i54 d55 i56 d57 d58 d59 d60 r62 r63 => k .ret ((.d (.slice 52) d52) :: (us 1 ((.d .bool (db false)) :: ((.d .bool d53) :: (us 1 ((.ptr 0 [] (.struct [25, 3, 3])) :: ((.ptr 1 [] (.struct [45, 3, 3])) :: ((.d (.int .i64) (di i54)) :: ((.ptr 2 [] (.struct [25, 3, 3])) :: (us 1 ((.d (.slice 58) d55) :: ((.d (.int .i64) (di i56)) :: (us 28 ((.d (.int .i64) (di i56)) :: ((.d (.slice 58) d55) :: ((.d (.int .i64) (di (nI d55.elems.length))) :: ((.d .bool (db (ltI i56 (nI d55.elems.length)))) :: (us 14 ((.d (.struct [45, 3, 3]) d58) :: ((.d (.struct [25, 3, 3]) d59) :: ((.d (.struct [45, 3, 3]) r62) :: ((.d .bool r63) :: ((.d .bool (db (!r63.b))) :: (us 2 [])))))))))))))))))))))))) [(.var (.struct [25, 3, 3]) (.d (.struct [25, 3, 3]) d57)), (.var (.struct [45, 3, 3]) (.d (.struct [45, 3, 3]) d58)), (.var (.struct [25, 3, 3]) (.d (.struct [25, 3, 3]) d59)), (.var (.struct [36, 3, 9, 39, 37]) (.d (.struct [36, 3, 9, 39, 37]) d60))]
  | .e2 d46 d47 i48 d49 d50 => k (.exit 0) ((.d (.slice 52) d46) :: (us 2 ((.d .bool d47) :: (us 1 ((.ptr 0 [] (.struct [25, 3, 3])) :: ((.ptr 1 [] (.struct [45, 3, 3])) :: ((.d (.int .i64) (di i48)) :: (us 16 ((.d (.int .i64) (di i48)) :: ((.d (.slice 52) d46) :: ((.d (.int .i64) (di (nI d46.elems.length))) :: ((.d .bool (db (ltI i48 (nI d46.elems.length)))) :: (us 37 []))))))))))))) [(.var (.struct [25, 3, 3]) (.d (.struct [25, 3, 3]) d49)), (.var (.struct [45, 3, 3]) (.d (.struct [45, 3, 3]) d50))]
def ps10 : List PV := ((.d (.slice 52) .x) :: (up 2 ((.d .bool .x) :: (up 1 ((.ptr 0 [] (.struct [25, 3, 3])) :: ((.ptr 1 [] (.struct [45, 3, 3])) :: ((.d (.int .i64) (.int .i64)) :: (up 57 []))))))))
def qs10 : List PO := [(.var (.struct [25, 3, 3]) (.d (.struct [25, 3, 3]) .x)), (.var (.struct [45, 3, 3]) (.d (.struct [45, 3, 3]) .x))]
noncomputable def sum10 (M : Nat) : Sum := sumS [0, 3, 5, 6, 7] ps10 qs10 [] of10 (st10 M) ex10 M
theorem sok10 (M : Nat) : SumOk (loopRd (e M) 4 10) (e M) (call (e M) 11) 4 0 (loopAt (e M) 4 10) (sum10 M) :=
  sumOk_st (T := tblOf (t4_1 M)) (n0 := 2) (lv := lv10) (t4_1_ok M) (by kernel_rfl) rfl (by intro ls s h; unfold of10 at h; (repeat' split at h) <;> simp at h; subst h; rfl) (by intro s; kernel_rfl) (by intro s; kernel_rfl) (by intro s nx k; kernel_rfl)
noncomputable def t4_2 (M : Nat) : List Ent := ⟨4, 11, 0, 10, sum10 M⟩ :: t4_1 M
theorem t4_2_ok (M : Nat) : AllOk (e M) (tblOf (t4_2 M)) := (t4_1_ok M).add ⟨4, 11, 0, 10, sum10 M⟩ (by kernel_rfl) (sok10 M)
def s (M : Nat) (p0 : D) : Option D :=
  (bd (F14.s FUEL) fun r1 => (cond (!r1.b) (some (db false)) (bd (F7.s FUEL p0) fun r2 => (cond (!r2.b) (some r1) (goS (st10 M) M ⟨p0, r1, 0, (da [(dl false []), (di 0), (di 0)]), (da [(dl false []), (di 0), (di 0)])⟩ fun x => match x with | .e0 d52 d53 i54 d55 i56 d57 d58 d59 d60 r61 => (some (db false)) | .e1 d52 d53 i54 d55 i56 d57 d58 d59 d60 r62 r63 => (some (db false)) | .e2 d46 d47 i48 d49 d50 => (some d47))))))
theorem run (M : Nat) (p0 : D) : callS (e M) (tblOf (t4_2 M)) 12 (.fn 4) [.d (.slice 52) p0] [] (fun v H => finish ty [4] v H) = s M p0 := by kernel_rfl
noncomputable abbrev t (M : Nat) : List Ent := t4_2 M
theorem t_ok (M : Nat) : AllOk (e M) (tblOf (t M)) := t4_2_ok M
def c : Con := { run := fun ds => match ds with | [p0] => s FUEL p0 | _ => none, fresh := false, plain := true }
theorem fun_at : Tryz.prog.funcs[4]? = some Tryz.f4 := by kernel_rfl
theorem params : Tryz.f4.params.toList.map ty = [(.slice 52)] := by kernel_rfl
theorem results : Tryz.f4.resultTypes.toList = [4] := by kernel_rfl
theorem flat : Tryz.f4.resultTypes.toList.all (fun t => K.flat ty 20 (ty t)) = true := by kernel_rfl
theorem ok : ConOk (4, c) := by
  intro fn hfn
  obtain rfl : Tryz.f4 = fn := Option.some.inj (fun_at.symm.trans hfn)
  refine contract_flat (n := 20) hgl (fun _ => flat) (fun ds r hh0 hr => ?_)
  rw [params] at hh0
  obtain ⟨p0, ds0, rfl, h0, hh1⟩ := hass_cons hh0
  obtain rfl := hass_nil hh1
  refine ⟨e FUEL, DEPTH, tblOf (t FUEL), envOk (allCons F7.ok (allCons F14.ok (allCons F15.ok (allCons F16.ok (allCons F17.ok (allCons F18.ok allNil)))))) allNil, rfl, t_ok FUEL, ?_⟩
  rw [params, results]
  exact (run FUEL p0).trans hr
end F4
end Go.AM.SZ
namespace Go.AM.SZ
open Go Go.AM
def ofE (sum : ByteArray → List Int) (f : Fl) : En := ⟨metaF f, (f.data.size : Int), if f.sealed = true then sum f.data else zeros⟩
def ofM (sum : ByteArray → List Int) (s : St) : Bk := ⟨s.nn, s.files.map (ofE sum), s.last, s.floor⟩
def playL : Bk → List Ev → Option Bk
  | b, [] => some b
  | b, e :: l => if (playB b e).2 = 0 then playL (playB b e).1 l else none
theorem id_at {sum : ByteArray → List Int} {L : List Fl} (h : L.Pairwise fun a b => a.id < b.id) {i : Nat} (hi : i < L.length) :
    (L.map (ofE sum)).findIdx? (fun x => decide (x.file.id = L[i].id)) = some i := by
  refine findIdx_some_of (by simpa using hi) (fun j hj hji => ?_) ?_
  · have := (List.pairwise_iff_getElem.1 h) j i (by simpa using hj) hi hji
    simp only [List.getElem_map, decide_eq_false_iff_not, ofE, metaF]
    omega
  · simp [ofE, metaF]
theorem tell_deed {sum : ByteArray → List Int} {f : Fl} {o : Mo} {floor : Int} (h : (deedF f o floor).2 = 0) (h6 : o.kind ≠ 6) :
    deedE (tellE sum f o) (ofE sum f) = some (ofE sum (deedF f o floor).1) := by
  obtain ⟨kind, name, text, time, a, b⟩ := o
  unfold deedF at h ⊢
  dsimp only at h h6 ⊢
  by_cases k0 : kind = 0
  · rw [if_pos k0] at h; simp at h
  rw [if_neg k0] at h ⊢
  by_cases k1 : kind = 1
  · rw [if_pos k1] at h ⊢; subst k1
    unfold appendF at h ⊢
    by_cases h1 : f.sealed = true
    · rw [if_pos h1] at h; simp at h
    rw [if_neg h1] at h ⊢
    by_cases h2 : text = bs []
    · rw [if_pos h2] at h; simp at h
    rw [if_neg h2] at h ⊢
    by_cases h3 : 600 < f.data.size + text.size
    · rw [if_pos h3] at h; simp at h
    rw [if_neg h3] at h ⊢
    have h1' : f.sealed = false := by simpa using h1
    unfold deedE tellE ofE metaF
    dsimp only
    rw [if_pos rfl, if_neg h1, if_neg (by rw [if_pos rfl]; omega), if_pos rfl, if_neg h1]
    simp [ByteArray.size_append, h1']
  rw [if_neg k1] at h ⊢
  by_cases k2 : kind = 2
  · rw [if_pos k2] at h ⊢; subst k2
    unfold sealF at h ⊢
    by_cases h1 : f.sealed = true
    · rw [if_pos h1] at h; simp at h
    rw [if_neg h1] at h ⊢
    by_cases h2 : timely time = false
    · rw [if_pos h2] at h; simp at h
    rw [if_neg h2] at h ⊢
    unfold deedE tellE ofE metaF sealF
    dsimp only
    simp [h1, h2]
  rw [if_neg k2] at h ⊢
  by_cases k3 : kind = 3
  · rw [if_pos k3] at h ⊢; subst k3
    unfold extendF at h ⊢
    by_cases h1 : f.sealed = false
    · rw [if_pos h1] at h; simp at h
    rw [if_neg h1] at h ⊢
    by_cases h2 : timely time = false
    · rw [if_pos h2] at h; simp at h
    rw [if_neg h2] at h ⊢
    by_cases h3 : time < f.until_
    · rw [if_pos h3] at h; simp at h
    rw [if_neg h3] at h ⊢
    unfold deedE tellE ofE metaF extendF
    dsimp only
    simp [h1, h2, h3]
  rw [if_neg k3] at h ⊢
  by_cases k4 : kind = 4
  · rw [if_pos k4] at h ⊢; subst k4
    unfold holdF at h ⊢
    by_cases h1 : f.sealed = false
    · rw [if_pos h1] at h; simp at h
    rw [if_neg h1] at h ⊢
    by_cases h2 : nameB text = false
    · rw [if_pos h2] at h; simp at h
    rw [if_neg h2] at h ⊢
    by_cases h3 : hasB f.holds text = true
    · rw [if_pos h3] at h; simp at h
    rw [if_neg h3] at h ⊢
    by_cases h4 : 4 ≤ f.holds.length
    · rw [if_pos h4] at h; simp at h
    rw [if_neg h4] at h ⊢
    unfold deedE tellE ofE metaF holdF
    dsimp only
    simp [h1, h2, h3, h4]
  rw [if_neg k4] at h ⊢
  by_cases k5 : kind = 5
  · rw [if_pos k5] at h ⊢; subst k5
    unfold releaseF at h ⊢
    unfold deedE tellE ofE metaF releaseF
    dsimp only
    cases hx : f.holds.findIdx? (fun y => decide (text = y)) with
    | none => rw [hx] at h; simp at h
    | some i => simp [hx]
  rw [if_neg k5] at h ⊢
  rw [if_neg h6] at h; simp at h
theorem play_create {b : Bk} {e : Ev} (hv : evB e = true) (hk : e.kind = 0) (h1 : e.id - 1 = b.last) (h2 : ¬ 12 ≤ b.es.length) (h3 : ¬ 0 ≤ findI (fun x : En => decide (x.file.name = e.name)) b.es) :
    playB b e = ({ b with nn := true, es := b.es ++ [⟨⟨e.id, e.name, bs [], false, 0, false, []⟩, 0, zeros⟩], last := e.id }, 0) := by
  unfold playB
  rw [if_neg (by rw [hv]; simp), if_neg (by omega), if_pos hk, if_neg (by omega), if_neg h2, if_neg h3]
theorem play_tick {b : Bk} {e : Ev} (hv : evB e = true) (hk : e.kind = 7) (h1 : ¬ e.time ≤ b.floor) : playB b e = ({ b with floor := e.time }, 0) := by
  unfold playB
  rw [if_neg (by rw [hv]; simp), if_pos hk, if_neg h1]
theorem play_del {b : Bk} {e : Ev} {i : Nat} {x : En} (hv : evB e = true) (hk : e.kind = 6) (h1 : b.es.findIdx? (fun x => decide (x.file.id = e.id)) = some i) (h2 : b.es[i]? = some x) (h3 : mayN x.file b.floor = 0) :
    playB b e = ({ b with es := b.es.eraseIdx i }, 0) := by
  unfold playB
  rw [if_neg (by rw [hv]; simp), if_neg (by omega), if_neg (by omega), h1]
  dsimp only
  rw [h2]
  dsimp only
  rw [if_pos hk, if_pos h3]
theorem play_deed {b : Bk} {e : Ev} {i : Nat} {x y : En} (hv : evB e = true) (hk : e.kind ≠ 6) (k7 : e.kind ≠ 7) (k0 : e.kind ≠ 0) (h1 : b.es.findIdx? (fun x => decide (x.file.id = e.id)) = some i) (h2 : b.es[i]? = some x) (h3 : deedE e x = some y) :
    playB b e = ({ b with es := b.es.set i y }, 0) := by
  unfold playB
  rw [if_neg (by rw [hv]; simp), if_neg k7, if_neg k0, h1]
  dsimp only
  rw [h2]
  dsimp only
  rw [if_neg hk, h3]
theorem play_dels {sum : ByteArray → List Int} {nn : Bool} {last floor : Int} (hl : last ≤ 1099511627776) : ∀ (L K : List Fl), (K ++ L).Pairwise (fun a b => a.id < b.id) → (∀ f ∈ L, FlOk f last) →
    playL ⟨nn, (K ++ L).map (ofE sum), last, floor⟩ ((dueL L floor).map delEv) = some ⟨nn, (K ++ L.filter fun f => !decide (mayN f floor = 0)).map (ofE sum), last, floor⟩
  | [], K, _, _ => rfl
  | f :: L, K, hp, hok => by
    have hk := hok f (by simp)
    have i0 := hk.id0
    have i1 := hk.id1
    by_cases hm : mayN f floor = 0
    · have e1 : dueL (f :: L) floor = f.id :: dueL L floor := by simp [dueL, hm]
      have e2 : ((f :: L).filter fun f => !decide (mayN f floor = 0)) = L.filter fun f => !decide (mayN f floor = 0) := by simp [hm]
      rw [e1, e2, List.map_cons, playL]
      have hi : K.length < (K ++ f :: L).length := by simp
      have hg : (K ++ f :: L)[K.length] = f := by simp
      have hid := id_at (sum := sum) hp hi
      rw [hg] at hid
      have hv : evB (delEv f.id) = true := evB_of (by simp [delEv]) (by simp [delEv]) (by simp [evCanon, evEq, delEv]) (by simp [delEv]) (.inr ⟨i0, by show f.id ≤ _; omega⟩) (by simp [delEv]) (by simp [delEv])
      have hP : playB ⟨nn, (K ++ f :: L).map (ofE sum), last, floor⟩ (delEv f.id) = (⟨nn, (K ++ L).map (ofE sum), last, floor⟩, 0) := by
        refine (play_del (b := ⟨nn, (K ++ f :: L).map (ofE sum), last, floor⟩) (i := K.length) (x := ofE sum f) hv rfl hid (by simp) hm).trans ?_
        have : ((K ++ f :: L).map (ofE sum)).eraseIdx K.length = (K ++ L).map (ofE sum) := by
          rw [List.map_append, List.map_cons, List.eraseIdx_append_of_length_le (by simp)]
          simp
        dsimp only
        rw [this]
      rw [hP, if_pos rfl]
      exact play_dels hl L K (hp.sublist (List.Sublist.append_left (List.sublist_cons_self f L) K)) (fun g hg => hok g (by simp [hg]))
    · have e1 : dueL (f :: L) floor = dueL L floor := by simp [dueL, hm]
      have e2 : ((f :: L).filter fun f => !decide (mayN f floor = 0)) = f :: L.filter fun f => !decide (mayN f floor = 0) := by simp [hm]
      rw [e1, e2]
      have := play_dels (sum := sum) (nn := nn) (floor := floor) hl L (K ++ [f]) (by simpa using hp) (fun g hg => hok g (by simp [hg]))
      simpa using this
theorem eraseIdx_map' {α β : Type} (g : α → β) : ∀ (l : List α) (i : Nat), (l.map g).eraseIdx i = (l.eraseIdx i).map g
  | [], _ => rfl
  | _ :: _, 0 => rfl
  | _ :: l, i + 1 => by simp [eraseIdx_map' g l i]
theorem play_one {b c : Bk} {e : Ev} (h : playB b e = (c, 0)) : playL b [e] = some c := by
  rw [playL, h, if_pos rfl]; rfl
theorem tells {sum : ByteArray → List Int} (hsum : ∀ s, (sum s).length = 32) {s : St} {o : Mo} (hs : StOk s) (ho : MoOk o) :
    playL (ofM sum s) (doM sum s o).evs = some (ofM sum (doM sum s o).st) := by
  have hev := do_events hsum hs ho
  have hst := (do_still (sum := sum) (s := s) (o := o)).2
  have l0 := hs.last0
  have l1 := hs.last1
  by_cases hnil : (doM sum s o).evs = []
  · rw [hst hnil, hnil]; rfl
  revert hev hnil
  unfold doM
  split
  · intro _ h; exact absurd rfl h
  split
  · intro _ h; exact absurd rfl h
  split
  · unfold createM
    repeat' split
    all_goals first | (intro _ h; exact absurd rfl h; done) | skip
    rename_i h1 h2 h3 h4
    intro hev _
    refine play_one ?_
    have hv := (hev _ (List.mem_singleton_self _)).1
    refine (play_create hv rfl (by show s.last + 1 - 1 = s.last; omega) (by show ¬ 12 ≤ (s.files.map (ofE sum)).length; simpa using h3) ?_).trans ?_
    · intro hc
      refine h2 ?_
      obtain ⟨x, hx, he⟩ := List.any_eq_true.1 (findI_nonneg.1 hc)
      obtain ⟨f, hf, rfl⟩ := List.mem_map.1 hx
      exact findI_nonneg.2 (List.any_eq_true.2 ⟨f, hf, he⟩)
    · unfold ofM
      rw [List.map_append]; rfl
  split
  · unfold tickM
    split
    · intro _ h; exact absurd rfl h
    · rename_i h1
      intro hev _
      refine play_one ?_
      have hv := (hev _ (List.mem_singleton_self _)).1
      have := (floorN_range (t := o.time) hs.floor0 hs.floor1).1
      exact play_tick hv rfl (by show ¬ floorN s.floor o.time ≤ s.floor; omega)
  split
  · intro _ _
    have := play_dels (sum := sum) (nn := s.nn) (floor := s.floor) l1 s.files [] (by simpa using hs.rise) hs.files
    simpa [ofM, sweepM] using this
  split
  · unfold readM; repeat' split
    all_goals (intro _ h; exact absurd rfl h)
  split
  · unfold statM; repeat' split
    all_goals (intro _ h; exact absurd rfl h)
  split
  · intro _ h; exact absurd rfl h
  rename_i n1 n2 n3 n4 n5 n6 n7 n8
  · unfold changeM
    split
    · intro _ h; exact absurd rfl h
    rename_i i hi
    split
    · intro _ h; exact absurd rfl h
    rename_i f hf
    obtain ⟨hl, rfl⟩ := List.getElem?_eq_some_iff.1 hf
    split
    · rename_i h0
      have hk := hs.files _ (List.getElem_mem hl)
      obtain ⟨hd, e1, e2⟩ := fileDo_name hk ho h0
      have hid := id_at (sum := sum) hs.rise hl
      have hgo : ((s.files.map (ofE sum))[i]?) = some (ofE sum s.files[i]) := by simp [hl]
      have fe : fileDo sum s.files[i] o s.floor = ((deedF s.files[i] o s.floor).1, tellE sum s.files[i] o, 0) := by unfold fileDo; rw [if_pos hd]
      split
      · rename_i k6
        intro hev _
        refine play_one ?_
        have hv := (hev _ (List.mem_singleton_self _)).1
        rw [fe] at hv ⊢
        dsimp only at hv ⊢
        have hm : mayN s.files[i] s.floor = 0 := by
          have := hd
          unfold deedF at this
          rw [if_neg (by omega), if_neg (by omega), if_neg (by omega), if_neg (by omega), if_neg (by omega), if_neg (by omega), if_pos k6] at this
          exact this
        refine (play_del (b := ofM sum s) (i := i) hv k6 hid hgo hm).trans ?_
        unfold ofM
        rw [eraseIdx_map']
      · rename_i k6
        intro hev _
        refine play_one ?_
        have hv := (hev _ (List.mem_singleton_self _)).1
        rw [fe] at hv ⊢
        dsimp only at hv ⊢
        refine (play_deed (b := ofM sum s) (i := i) hv k6 (show o.kind ≠ 7 from n4) (show o.kind ≠ 0 from n3) hid hgo (tell_deed hd k6)).trans ?_
        unfold ofM
        rw [List.map_set]
    · intro _ h; exact absurd rfl h
end Go.AM.SZ
namespace Go.AM.SZ
open Go Go.AM
theorem meta_specM (f : Fl) : F41.s FUEL f.enc = some (metaF f).enc := rfl
theorem ofM_spec (s : St) (hs : StOk s) : F18.s FUEL s.enc = some (Bk.enc { ofM shaL s with nn := decide (0 < s.files.length) }) := by
  have hl := hs.len
  unfold F18.s
  have h0 : s.enc.at 0 = dl s.nn (s.files.map Fl.enc) := rfl
  rw [h0]
  refine goS_rule (fun t : F18.S3 => ∃ (k : Nat) (L : List D), t = ⟨dl s.nn (s.files.map Fl.enc), nI (s.files.map Fl.enc).length, (k : Int), s.enc, false, [], 0, 0, 0, k, s.enc.at 1, s.enc.at 2, decide (0 < k), L⟩ ∧ k ≤ s.files.length ∧ L.length = k ∧ L = ((s.files.take k).map (ofE shaL)).map En.enc) (fun t => s.files.length - t.i3.toNat) (fun o => o = some (Bk.enc { ofM shaL s with nn := decide (0 < s.files.length) })) ?_ _ _ ⟨0, [], rfl, by omega, rfl, by simp⟩ (by simp [FUEL]; omega)
  rintro _ rec ⟨k, L, rfl, hk, hL, hLe⟩ hrec
  simp only [F18.st3]
  by_cases h1 : k < s.files.length
  · have hadd : ad .i64 (k : Int) 1 = ((k + 1 : Nat) : Int) := by rw [ad64 (by omega) (by omega)]; rfl
    have hf := hs.files _ (List.getElem_mem h1)
    have hd := hf.data
    refine ct (by simp; omega) (ct (by simp; omega) ?_)
    simp only [elems_slice, Int.toNat_natCast, ix_map h1]
    have hdt : (L.drop 0).take k = L := by rw [List.drop_zero, List.take_of_length_le (by omega)]
    have hmx : mx (k + 1) = true := by simp; omega
    have hor : (decide (0 < k) || true) = decide (0 < k + 1) := by simp
    refine bdS (meta_specM s.files[k]) ?_
    have step : ∀ x : D, x = (ofE shaL s.files[k]).enc → rec ⟨dl s.nn (s.files.map Fl.enc), nI (s.files.map Fl.enc).length, ad .i64 (k : Int) 1, s.enc, false, [], 0, 0, 0, k + 1, s.enc.at 1, s.enc.at 2, (decide (0 < k) || true), ap ((L.drop 0).take k) [x]⟩ = some (Bk.enc { ofM shaL s with nn := decide (0 < s.files.length) }) := by
      intro x hx
      rw [hadd, hor, hdt]
      refine hrec _ ⟨k + 1, _, rfl, by omega, by simp [ap, hL], ?_⟩ (by simp; omega)
      rw [hx, hLe, List.take_succ_eq_append_getElem h1, List.map_append, List.map_append]
      rfl
    cases hse : s.files[k].sealed with
    | true =>
      refine ct hse (bdS (sha_spec s.files[k].data (by omega)) (ct hmx ?_))
      refine step _ ?_
      have e : ofE shaL s.files[k] = ⟨metaF s.files[k], (s.files[k].data.size : Int), shaL s.files[k].data⟩ := by unfold ofE; rw [if_pos hse]
      rw [e]
      generalize shaL s.files[k].data = h
      rfl
    | false =>
      refine cf hse (ct hmx ?_)
      refine step _ ?_
      have hz : da (rp 32 (D.int .u8 0)) = sumD zeros := by kernel_rfl
      have e : ofE shaL s.files[k] = ⟨metaF s.files[k], (s.files[k].data.size : Int), zeros⟩ := by unfold ofE; rw [hse]; rfl
      rw [e, hz]
      rfl
  · refine cf (by simp; omega) ?_
    have hkk : k = s.files.length := by omega
    subst hkk
    rw [List.drop_zero, List.take_of_length_le (by omega), hLe, List.take_of_length_le (by omega)]
    rfl
theorem same_nn (b : Bk) (n2 : Bool) (hl : b.es.length ≤ 1048576) (hes : ∀ x ∈ b.es, x.file.holds.length ≤ 1048576 ∧ x.sum.length = 32) : F17.s FUEL b.enc (Bk.enc { b with nn := n2 }) = some (db true) := by
  unfold F17.s
  have h0 : b.enc.at 0 = dl b.nn (b.es.map En.enc) := rfl
  have h1 : (Bk.enc { b with nn := n2 }).at 0 = dl n2 (b.es.map En.enc) := rfl
  rw [h0, h1]
  refine ct (by show eqI b.last b.last = true; simp) (ct (by show eqI b.floor b.floor = true; simp) (cf (by simp) ?_))
  refine goS_rule (fun t : F17.S38_4 => ∃ k : Nat, t = ⟨dl n2 (b.es.map En.enc), dl b.nn (b.es.map En.enc), nI b.es.length, (k : Int), b.enc, Bk.enc { b with nn := n2 }⟩ ∧ k ≤ b.es.length) (fun t => b.es.length - t.i4.toNat) (fun o => o = some (db true)) ?_ _ _ ⟨0, by simp, by omega⟩ (by simp [FUEL]; omega)
  rintro _ rec ⟨k, rfl, hk⟩ hrec
  simp only [F17.st38_4]
  by_cases h1 : k < b.es.length
  · have hx := hes _ (List.getElem_mem h1)
    refine ct (by simp; omega) (ct (by simp; omega) (ct (by simp; omega) ?_))
    simp only [elems_slice, Int.toNat_natCast, ix_map h1]
    refine bdS (same_entry _ hx.1 hx.2) (cf rfl (hrec _ ⟨k + 1, ?_, by omega⟩ ?_))
    · rw [ad64 (by omega) (by omega)]; rfl
    · rw [ad64 (by omega) (by omega)]; simp; omega
  · exact cf (by simp; omega) rfl
theorem ofM_ok {s : St} (hs : StOk s) : BkOk (ofM shaL s) := by
  refine ⟨by simpa [ofM] using hs.len, fun h => by simp [ofM] at h ⊢; exact hs.nil h, hs.last0, hs.last1, ?_⟩
  intro x hx
  obtain ⟨f, hf, rfl⟩ := List.mem_map.1 hx
  have hk := hs.files f hf
  refine ⟨hk.hold, fun t ht => by have := hk.hsz t ht; omega, hk.nil, ?_, hk.id0, hk.id1, by simp [ofE], by have := hk.data; simp only [ofE]; omega⟩
  simp only [ofE]
  split
  · exact shaL_len _
  · rfl
theorem loop4 (nnv : Bool) (evs : List Ev) (c : Bk) (hv : ∀ e ∈ evs, evB e = true ∧ e.name.size ≤ 1000 ∧ e.sum.length = 32) (hl : evs.length ≤ 1000) (b : Bk) (hb : BkOk b) (hp : playL b evs = some c) (d52 d53 d57 d59 d60 : D) (i54 : Int)
    (K : F4.X14_11_0 → Option D) (R : Option D) (hK : BkOk c → K (.e1 d52 d53 i54 (dl nnv (evs.map Ev.enc)) (evs.length : Int) d57 c.enc d59 d60) = R) : goS (F4.st14_11_0 FUEL) FUEL ⟨d52, d53, i54, dl nnv (evs.map Ev.enc), 0, d57, b.enc, d59, d60⟩ K = R := by
  refine goS_rule (fun t : F4.S14_11_0 => ∃ (k : Nat) (b : Bk), t = ⟨d52, d53, i54, dl nnv (evs.map Ev.enc), (k : Int), d57, b.enc, d59, d60⟩ ∧ k ≤ evs.length ∧ BkOk b ∧ playL b (evs.drop k) = some c) (fun t => evs.length - t.i56.toNat) (fun o => o = R) ?_ _ _ ⟨0, b, rfl, by omega, hb, by simpa using hp⟩ (by simp [FUEL]; omega)
  rintro _ rec ⟨k, b, rfl, hk, hb, hp⟩ hrec
  simp only [F4.st14_11_0]
  by_cases h1 : k < evs.length
  · have hadd : ad .i64 (k : Int) 1 = ((k + 1 : Nat) : Int) := by rw [ad64 (by omega) (by omega)]; rfl
    obtain ⟨v1, v2, v3⟩ := hv _ (List.getElem_mem h1)
    refine ct (by simp; omega) (ct (by simp; omega) ?_)
    simp only [elems_slice, Int.toNat_natCast, ix_map h1]
    have hid : i64ok evs[k].id := by
      obtain ⟨_, _, _, _, _, _, _, h8, h9⟩ := valid_range v1
      rcases h8 with h8 | h8
      · have : (evCanon evs[k]).id = evs[k].id := by
          unfold evEq at h9
          simp only [Bool.and_eq_true, beq_iff_eq] at h9
          exact h9.2.1
        rw [← this]
        unfold evCanon
        rw [if_neg (by omega), if_neg (by omega), if_neg (by omega), if_neg (by omega), if_pos h8]
        simp [i64ok]
      · unfold i64ok; omega
    rw [List.drop_eq_getElem_cons h1, playL] at hp
    split at hp
    · rename_i h2
      refine bdS (play_spec b evs[k] hb hid (by omega) v3) (cf (by show neI (playB b evs[k]).2 0 = false; simpa using h2) ?_)
      rw [hadd]
      exact hrec _ ⟨k + 1, _, rfl, by omega, play_ok hb (by omega) v3, hp⟩ (by simp; omega)
    · simp at hp
  · refine cf (by simp; omega) ?_
    have hkk : k = evs.length := by omega
    subst hkk
    rw [List.drop_length, playL] at hp
    obtain rfl := Option.some.inj hp
    exact hK hb
theorem model_law (nn : Bool) (l : List Mo) (hs : ∀ o ∈ l, o.ok) : F4.s FUEL (dl nn (l.map Mo.enc)) = some (db true) := by
  unfold F4.s
  refine bdS works_spec (cf rfl (bdS (few_specM nn l) ?_))
  cases hf : fewM l with
  | false => exact ct rfl rfl
  | true =>
    obtain ⟨hlen, hl⟩ := few_okM hf hs
    refine cf rfl ?_
    refine goS_rule (fun t : F4.S10 => ∃ (k : Nat) (s : St), t = ⟨dl nn (l.map Mo.enc), db true, (k : Int), s.enc, (ofM shaL s).enc⟩ ∧ k ≤ l.length ∧ StOk s) (fun t => l.length - t.i48.toNat) (fun o => o = some (db true)) ?_ _ _ ⟨0, emptyS, rfl, by omega, emptyS_ok⟩ (by simp [FUEL]; omega)
    rintro _ rec ⟨k, s, rfl, hk, hso⟩ hrec
    simp only [F4.st10]
    by_cases h1 : k < l.length
    · have hadd : ad .i64 (k : Int) 1 = ((k + 1 : Nat) : Int) := by rw [ad64 (by omega) (by omega)]; rfl
      have ho := hl _ (List.getElem_mem h1)
      refine ct (by simp; omega) (ct (by simp; omega) ?_)
      simp only [elems_slice, Int.toNat_natCast, ix_map h1]
      have hto := do_ok (sum := shaL) hso ho
      have hevs := do_events (sum := shaL) shaL_len hso ho
      have helen := do_evs_len (sum := shaL) (o := l[k]) hso
      have htl := tells (sum := shaL) shaL_len hso ho
      refine bdS (do_specM s l[k] hso ho) ?_
      generalize doM shaL s l[k] = r at hto hevs helen htl
      refine loop4 r.nn r.evs (ofM shaL r.st) hevs (by omega) (ofM shaL s) (ofM_ok hso) htl _ _ _ _ _ _ _ _ (fun hbo => ?_)
      dsimp only
      have hbl := hbo.len
      refine bdS (ofM_spec r.st hto) (bdS (same_nn _ _ (by omega) fun x hx => ⟨by have := (hbo.es x hx).hold; omega, (hbo.es x hx).sum⟩) (cf rfl ?_))
      rw [hadd]
      exact hrec _ ⟨k + 1, r.st, rfl, by omega, hto⟩ (by simp; omega)
    · exact cf (by simp; omega) rfl
theorem pure4 : ∀ ds, D.hass ty ds [(.slice 52)] → D.wfs ds → F4.c.run ds = some (.bool true) := by
  intro ds h hw
  obtain ⟨d0, _, rfl, h0, h⟩ := hassC h
  obtain rfl := hass0 h
  simp only [D.wfs] at hw
  obtain ⟨nn, l, rfl, hl⟩ := mos_of h0 hw.1
  exact model_law nn l hl
end Go.AM.SZ
