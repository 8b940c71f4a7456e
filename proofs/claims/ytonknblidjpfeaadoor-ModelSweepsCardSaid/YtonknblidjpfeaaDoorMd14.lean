/- Part 14 of the proof: the abstract machine, what the functions compute, and plain laws over that. -/
import Derived.Test.YtonknblidjpfeaaDoorMd13
set_option linter.all false
set_option linter.unusedSimpArgs false
set_option linter.unusedVariables false
set_option linter.unusedSectionVars false
namespace Go.AM.SD
open Go Go.AM Go.Proofs Go.RowKit
namespace F9
def cons : List (Nat × Con) := [(17, F17.c), (18, F18.c), (19, F19.c), (20, F20.c), (21, F21.c), (22, F22.c), (24, F24.c), (25, F25.c)]
def exts : List (Nat × Ext) := []
def h : List (Nat × Nat × Hint) := [(9, 14, { live := [3, 5, 9, 15], rows := [], own := false, inpl := false })]
noncomputable def e (M : Nat) : Env := env cons exts h M
noncomputable def t9_0 (_ : Nat) : List Ent := []
theorem t9_0_ok (M : Nat) : AllOk (e M) (tblOf (t9_0 M)) := AllOk.nil
structure S14 where
  d8 : D
  i9 : Int
  d10 : D
  b11 : Bool
  l12 : (List D)
  d13 : D
  d14 : D
  d15 : D
  d16 : D
inductive X14 where
  | e0 (d8 : D) (i9 : Int) (d10 : D) (b11 : Bool) (l12 : (List D)) (d13 : D) (d14 : D) (d15 : D) (d16 : D) (r17 : D)
  | e1 (d8 : D) (i9 : Int) (d10 : D) (b11 : Bool) (l12 : (List D)) (d13 : D) (d14 : D) (d15 : D) (d16 : D) (r17 : D) (r18 : D)
  | e2 (d8 : D) (i9 : Int) (d10 : D) (b11 : Bool) (l12 : (List D)) (d13 : D) (d14 : D) (d15 : D) (d16 : D)
def st14 (M : Nat) : S14 → (S14 → Option D) → (X14 → Option D) → Option D
  | ⟨d8, i9, d10, b11, l12, d13, d14, d15, d16⟩, rec, K => (cond (ltI i9 (nI (d13.at 0).elems.length)) (cond (inb i9 (d13.at 0).elems.length) (bd (F21.s FUEL d10 ((ix (d13.at 0).elems i9.toNat).at 1).s) fun r17 => (cond (ltI r17.i 0) (K (.e0 d8 i9 d10 b11 l12 d13 d14 d15 d16 r17)) (cond (inb r17.i (d10.at 0).elems.length) (cond (inb i9 (d13.at 0).elems.length) (bd (F22.s FUEL (ix (d10.at 0).elems (r17.i).toNat) (ix (d13.at 0).elems i9.toNat)) fun r18 => (cond (!r18.b) (K (.e1 d8 i9 d10 b11 l12 d13 d14 d15 d16 r17 r18)) (rec ⟨d8, (ad .i64 i9 1), d10, b11, l12, d13, d14, d15, d16⟩))) none) none))) none) (K (.e2 d8 i9 d10 b11 l12 d13 d14 d15 d16)))
def lv14 : S14 → List Leaf
  | ⟨d8, i9, d10, b11, l12, d13, d14, d15, d16⟩ => [.d d8, .i i9, .d d10, .b b11, .l l12, .d d13, .d d14, .d d15, .d d16]
def of14 : List Leaf → Option S14
  | [.d d8, .i i9, .d d10, .b b11, .l l12, .d d13, .d d14, .d d15, .d d16] => some ⟨d8, i9, d10, b11, l12, d13, d14, d15, d16⟩
  | _ => none
def ex14 (k : Kont) : X14 → Option D
  | .e0 d8 i9 d10 b11 l12 d13 d14 d15 d16 r17 => k .ret (us 2 ((.d .bool (db false)) :: ((.d .bool d8) :: (us 1 ((.ptr 0 [] (.struct [49, 3, 3])) :: (us 3 ((.ptr 2 [] (.struct [49, 3, 3])) :: (us 5 ((.d (.int .i64) (di i9)) :: ((.d (.int .i64) r17) :: (us 74 ((.d (.int .i64) (di i9)) :: ((.ptr 2 [0] (.slice 42)) :: ((.d (.slice 42) (d13.at 0)) :: ((.d (.int .i64) (di (nI (d13.at 0).elems.length))) :: ((.d .bool (db (ltI i9 (nI (d13.at 0).elems.length)))) :: (us 2 ((.d (.struct [49, 3, 3]) d10) :: ((.ptr 2 [0] (.slice 42)) :: ((.d (.slice 42) (d13.at 0)) :: ((.d (.int .i64) (di i9)) :: ((.cptr (.struct [3, 9, 9, 4, 3, 40]) (ix (d13.at 0).elems i9.toNat)) :: ((.cptr .str ((ix (d13.at 0).elems i9.toNat).at 1)) :: ((.d .str ((ix (d13.at 0).elems i9.toNat).at 1)) :: ((.d (.int .i64) r17) :: ((.d (.int .i64) r17) :: ((.d .bool (db (ltI r17.i 0))) :: ((.d .bool (db true)) :: ((.tup []) :: ((.tup []) :: ((.tup []) :: ((.tup []) :: ((.tup []) :: ((.tup []) :: ((.tup []) :: ((.tup []) :: ((.tup []) :: ((.tup []) :: ((.tup []) :: ((.tup []) :: ((.d .bool (db true)) :: (us 10 [])))))))))))))))))))))))))))))))))))))))))) [(.var (.struct [49, 3, 3]) (.d (.struct [49, 3, 3]) d10)), (.row 3 true b11 l12), (.var (.struct [49, 3, 3]) (.d (.struct [49, 3, 3]) d13)), (.var (.struct [28, 3, 9, 42, 40]) (.d (.struct [28, 3, 9, 42, 40]) d14)), (.var (.struct [49, 3, 3]) (.d (.struct [49, 3, 3]) d15)), (.var (.struct [28, 3, 9, 42, 40]) (.d (.struct [28, 3, 9, 42, 40]) d16))]
  | .e1 d8 i9 d10 b11 l12 d13 d14 d15 d16 r17 r18 => k .ret (us 2 ((.d .bool (db false)) :: ((.d .bool d8) :: (us 1 ((.ptr 0 [] (.struct [49, 3, 3])) :: (us 3 ((.ptr 2 [] (.struct [49, 3, 3])) :: (us 5 ((.d (.int .i64) (di i9)) :: ((.d (.int .i64) r17) :: (us 74 ((.d (.int .i64) (di i9)) :: ((.ptr 2 [0] (.slice 42)) :: ((.d (.slice 42) (d13.at 0)) :: ((.d (.int .i64) (di (nI (d13.at 0).elems.length))) :: ((.d .bool (db (ltI i9 (nI (d13.at 0).elems.length)))) :: (us 2 ((.d (.struct [49, 3, 3]) d10) :: ((.ptr 2 [0] (.slice 42)) :: ((.d (.slice 42) (d13.at 0)) :: ((.d (.int .i64) (di i9)) :: ((.cptr (.struct [3, 9, 9, 4, 3, 40]) (ix (d13.at 0).elems i9.toNat)) :: ((.cptr .str ((ix (d13.at 0).elems i9.toNat).at 1)) :: ((.d .str ((ix (d13.at 0).elems i9.toNat).at 1)) :: ((.d (.int .i64) r17) :: ((.d (.int .i64) r17) :: ((.d .bool (db (ltI r17.i 0))) :: ((.d .bool (db false)) :: ((.ptr 0 [0] (.slice 42)) :: ((.d (.slice 42) (d10.at 0)) :: ((.d (.int .i64) r17) :: ((.cptr (.struct [3, 9, 9, 4, 3, 40]) (ix (d10.at 0).elems (r17.i).toNat)) :: ((.d (.struct [3, 9, 9, 4, 3, 40]) (ix (d10.at 0).elems (r17.i).toNat)) :: ((.ptr 2 [0] (.slice 42)) :: ((.d (.slice 42) (d13.at 0)) :: ((.d (.int .i64) (di i9)) :: ((.cptr (.struct [3, 9, 9, 4, 3, 40]) (ix (d13.at 0).elems i9.toNat)) :: ((.d (.struct [3, 9, 9, 4, 3, 40]) (ix (d13.at 0).elems i9.toNat)) :: ((.d .bool r18) :: ((.d .bool (db (!r18.b))) :: ((.d .bool (db (!r18.b))) :: (us 10 [])))))))))))))))))))))))))))))))))))))))))) [(.var (.struct [49, 3, 3]) (.d (.struct [49, 3, 3]) d10)), (.row 3 true b11 l12), (.var (.struct [49, 3, 3]) (.d (.struct [49, 3, 3]) d13)), (.var (.struct [28, 3, 9, 42, 40]) (.d (.struct [28, 3, 9, 42, 40]) d14)), (.var (.struct [49, 3, 3]) (.d (.struct [49, 3, 3]) d15)), (.var (.struct [28, 3, 9, 42, 40]) (.d (.struct [28, 3, 9, 42, 40]) d16))]
  | .e2 d8 i9 d10 b11 l12 d13 d14 d15 d16 => k (.exit 0) (us 3 ((.d .bool d8) :: (us 1 ((.ptr 0 [] (.struct [49, 3, 3])) :: (us 3 ((.ptr 2 [] (.struct [49, 3, 3])) :: (us 5 ((.d (.int .i64) (di i9)) :: (us 75 ((.d (.int .i64) (di i9)) :: ((.ptr 2 [0] (.slice 42)) :: ((.d (.slice 42) (d13.at 0)) :: ((.d (.int .i64) (di (nI (d13.at 0).elems.length))) :: ((.d .bool (db (ltI i9 (nI (d13.at 0).elems.length)))) :: (us 36 []))))))))))))))) [(.var (.struct [49, 3, 3]) (.d (.struct [49, 3, 3]) d10)), (.row 3 true b11 l12), (.var (.struct [49, 3, 3]) (.d (.struct [49, 3, 3]) d13)), (.var (.struct [28, 3, 9, 42, 40]) (.d (.struct [28, 3, 9, 42, 40]) d14)), (.var (.struct [49, 3, 3]) (.d (.struct [49, 3, 3]) d15)), (.var (.struct [28, 3, 9, 42, 40]) (.d (.struct [28, 3, 9, 42, 40]) d16))]
def ps14 : List PV := (up 3 ((.d .bool .x) :: (up 1 ((.ptr 0 [] (.struct [49, 3, 3])) :: (up 3 ((.ptr 2 [] (.struct [49, 3, 3])) :: (up 5 ((.d (.int .i64) (.int .i64)) :: (up 116 [])))))))))
def qs14 : List PO := [(.var (.struct [49, 3, 3]) (.d (.struct [49, 3, 3]) .x)), (.row 3 true), (.var (.struct [49, 3, 3]) (.d (.struct [49, 3, 3]) .x)), (.var (.struct [28, 3, 9, 42, 40]) (.d (.struct [28, 3, 9, 42, 40]) .x)), (.var (.struct [49, 3, 3]) (.d (.struct [49, 3, 3]) .x)), (.var (.struct [28, 3, 9, 42, 40]) (.d (.struct [28, 3, 9, 42, 40]) .x))]
noncomputable def sum14 (M : Nat) : Sum := sumS [3, 5, 9, 15] ps14 qs14 [] of14 (st14 M) ex14 M
theorem sok14 (M : Nat) : SumOk (loopRd (e M) 9 14) (e M) (call (e M) 11) 9 0 (loopAt (e M) 9 14) (sum14 M) :=
  sumOk_st (T := tblOf (t9_0 M)) (n0 := 6) (lv := lv14) (t9_0_ok M) (by kernel_rfl) rfl (by intro ls s h; unfold of14 at h; (repeat' split at h) <;> simp at h; subst h; rfl) (by intro s; kernel_rfl) (by intro s; kernel_rfl) (by intro s nx k; kernel_rfl)
noncomputable def t9_1 (M : Nat) : List Ent := ⟨9, 11, 0, 14, sum14 M⟩ :: t9_0 M
theorem t9_1_ok (M : Nat) : AllOk (e M) (tblOf (t9_1 M)) := (t9_0_ok M).add ⟨9, 11, 0, 14, sum14 M⟩ (by kernel_rfl) (sok14 M)
def s (M : Nat) (p0 : D) : Option D :=
  (bd (F17.s FUEL) fun r1 => (cond (!r1.b) (some (db false)) (bd (F18.s FUEL p0) fun r2 => (cond (!r2.b) (some r1) (bd (F19.s FUEL (da [(dl false []), (di 0), (di 0)]) p0) fun r3 => (bd (F24.s FUEL ((r3.at 0).at 0) ((r3.at 0).at 2).i) fun r4 => (bd (F20.s FUEL (r3.at 0) (da [(di 8), (dS (bs [])), (dS (bs [])), (di 0), (di 0), (di 0)])) fun r5 => (bd (F20.s FUEL (r5.at 0) (da [(di 8), (dS (bs [])), (dS (bs [])), (di 0), (di 0), (di 0)])) fun r6 => (cond (neI ((r5.at 1).at 1).i (nI r4.elems.length)) (some (db false)) (cond (neI (nI (r5.at 2).elems.length) (nI r4.elems.length)) (some (db false)) (cond (neI ((r6.at 1).at 1).i 0) (some (db false)) (cond (neI (nI (r6.at 2).elems.length) 0) (some (db false)) (bd (F25.s FUEL (r5.at 0) (r6.at 0)) fun r7 => (cond (!r7.b) (some (db false)) (cond (neI (ad .i64 (nI ((r5.at 0).at 0).elems.length) ((r5.at 1).at 1).i) (nI ((r3.at 0).at 0).elems.length)) (some (db false)) (goS (st14 M) M ⟨r1, 0, (r3.at 0), r4.nn, r4.elems, (r5.at 0), (r5.at 1), (r6.at 0), (r6.at 1)⟩ fun x => match x with | .e0 d8 i9 d10 b11 l12 d13 d14 d15 d16 r17 => (some (db false)) | .e1 d8 i9 d10 b11 l12 d13 d14 d15 d16 r17 r18 => (some (db false)) | .e2 d8 i9 d10 b11 l12 d13 d14 d15 d16 => (cond d8.b (bd (F24.s FUEL (d13.at 0) (d13.at 2).i) fun r19 => (some (db (eqI (nI r19.elems.length) 0)))) (some (db false)))))))))))))))))))
theorem run (M : Nat) (p0 : D) : callS (e M) (tblOf (t9_1 M)) 12 (.fn 9) [.d (.slice 47) p0] [] (fun v H => finish ty [4] v H) = s M p0 := by kernel_rfl
noncomputable abbrev t (M : Nat) : List Ent := t9_1 M
theorem t_ok (M : Nat) : AllOk (e M) (tblOf (t M)) := t9_1_ok M
def c : Con := { run := fun ds => match ds with | [p0] => s FUEL p0 | _ => none, fresh := false, plain := true }
theorem fun_at : Tryd.prog.funcs[9]? = some Tryd.f9 := by kernel_rfl
theorem params : Tryd.f9.params.toList.map ty = [(.slice 47)] := by kernel_rfl
theorem results : Tryd.f9.resultTypes.toList = [4] := by kernel_rfl
theorem flat : Tryd.f9.resultTypes.toList.all (fun t => K.flat ty 20 (ty t)) = true := by kernel_rfl
theorem ok : ConOk (9, c) := by
  intro fn hfn
  obtain rfl : Tryd.f9 = fn := Option.some.inj (fun_at.symm.trans hfn)
  refine contract_flat (n := 20) hgl (fun _ => flat) (fun ds r hh0 hr => ?_)
  rw [params] at hh0
  obtain ⟨p0, ds0, rfl, h0, hh1⟩ := hass_cons hh0
  obtain rfl := hass_nil hh1
  refine ⟨e FUEL, DEPTH, tblOf (t FUEL), envOk (allCons F17.ok (allCons F18.ok (allCons F19.ok (allCons F20.ok (allCons F21.ok (allCons F22.ok (allCons F24.ok (allCons F25.ok allNil)))))))) allNil, rfl, t_ok FUEL, ?_⟩
  rw [params, results]
  exact (run FUEL p0).trans hr
end F9
namespace F26
def cons : List (Nat × Con) := [(44, F44.c)]
def exts : List (Nat × Ext) := []
def h : List (Nat × Nat × Hint) := []
noncomputable def e (M : Nat) : Env := env cons exts h M
noncomputable def t26_0 (_ : Nat) : List Ent := []
theorem t26_0_ok (M : Nat) : AllOk (e M) (tblOf (t26_0 M)) := AllOk.nil
def s (M : Nat) (p0 : D) (p1 : Int) : Option D :=
  (cond (p0.at 3).b (bd (F44.s FUEL p0 p1) fun r1 => (some (db (neI r1.i 0)))) (some (db false)))
theorem run (M : Nat) (p0 : D) (p1 : Int) : callS (e M) (tblOf (t26_0 M)) 12 (.fn 26) [.d (.struct [3, 9, 9, 4, 3, 40]) p0, .d (.int .i64) (di p1)] [] (fun v H => finish ty [4] v H) = s M p0 p1 := by kernel_rfl
noncomputable abbrev t (M : Nat) : List Ent := t26_0 M
theorem t_ok (M : Nat) : AllOk (e M) (tblOf (t M)) := t26_0_ok M
def c : Con := { run := fun ds => match ds with | [p0, p1] => s FUEL p0 p1.i | _ => none, fresh := false, plain := true }
theorem fun_at : Tryd.prog.funcs[26]? = some Tryd.f26 := by kernel_rfl
theorem params : Tryd.f26.params.toList.map ty = [(.struct [3, 9, 9, 4, 3, 40]), (.int .i64)] := by kernel_rfl
theorem results : Tryd.f26.resultTypes.toList = [4] := by kernel_rfl
theorem flat : Tryd.f26.resultTypes.toList.all (fun t => K.flat ty 20 (ty t)) = true := by kernel_rfl
theorem ok : ConOk (26, c) := by
  intro fn hfn
  obtain rfl : Tryd.f26 = fn := Option.some.inj (fun_at.symm.trans hfn)
  refine contract_flat (n := 20) hgl (fun _ => flat) (fun ds r hh0 hr => ?_)
  rw [params] at hh0
  obtain ⟨p0, ds0, rfl, h0, hh1⟩ := hass_cons hh0
  obtain ⟨p1, ds1, rfl, h1, hh2⟩ := hass_cons hh1
  obtain ⟨p1, rfl⟩ := has_int h1
  obtain rfl := hass_nil hh2
  refine ⟨e FUEL, DEPTH, tblOf (t FUEL), envOk (allCons F44.ok allNil) allNil, rfl, t_ok FUEL, ?_⟩
  rw [params, results]
  exact (run FUEL p0 p1).trans hr
end F26
end Go.AM.SD
namespace Go.AM.SD
open Go Go.AM Go.Proofs Go.RowKit
namespace F74
def cons : List (Nat × Con) := []
def exts : List (Nat × Ext) := []
def h : List (Nat × Nat × Hint) := [(74, 22, { live := [0, 5, 6, 7, 8], rows := [], own := false, inpl := false })]
noncomputable def e (M : Nat) : Env := env cons exts h M
noncomputable def t74_0 (_ : Nat) : List Ent := []
theorem t74_0_ok (M : Nat) : AllOk (e M) (tblOf (t74_0 M)) := AllOk.nil
structure S22 where
  s1 : ByteArray
  i2 : Int
  i3 : Int
  i4 : Int
  i5 : Int
inductive X22 where
  | e0 (s1 : ByteArray) (i2 : Int) (i3 : Int) (i4 : Int) (i5 : Int)
  | e1 (s1 : ByteArray) (i2 : Int) (i3 : Int) (i4 : Int) (i5 : Int)
  | e2 (s1 : ByteArray) (i2 : Int) (i3 : Int) (i4 : Int) (i5 : Int)
def st22 (M : Nat) : S22 → (S22 → Option D) → (X22 → Option D) → Option D
  | ⟨s1, i2, i3, i4, i5⟩, rec, K => (cond (ltI i5 i2) (cond (inb i5 s1.size) (cond (ltI (cv .i64 (byteAt s1 i5.toNat)) 128) (K (.e0 s1 i2 i3 i4 i5)) (cond (gtI (cv .i64 (byteAt s1 i5.toNat)) 191) (K (.e1 s1 i2 i3 i4 i5)) (rec ⟨s1, i2, i3, (sb .i64 (ad .i64 (ml .i64 i4 64) (cv .i64 (byteAt s1 i5.toNat))) 128), (ad .i64 i5 1)⟩))) none) (K (.e2 s1 i2 i3 i4 i5)))
def lv22 : S22 → List Leaf
  | ⟨s1, i2, i3, i4, i5⟩ => [.s s1, .i i2, .i i3, .i i4, .i i5]
def of22 : List Leaf → Option S22
  | [.s s1, .i i2, .i i3, .i i4, .i i5] => some ⟨s1, i2, i3, i4, i5⟩
  | _ => none
def ex22 (k : Kont) : X22 → Option D
  | .e0 s1 i2 i3 i4 i5 => k .ret ((.d .str (dS s1)) :: (us 1 ((.d (.int .i64) (di (-1))) :: ((.d (.int .i64) (di 1)) :: (us 1 ((.d (.int .i64) (di i2)) :: ((.d (.int .i64) (di i3)) :: ((.d (.int .i64) (di i4)) :: ((.d (.int .i64) (di i5)) :: ((.d (.int .i64) (di (cv .i64 (byteAt s1 i5.toNat)))) :: (us 38 ((.d (.int .i64) (di i5)) :: ((.d (.int .i64) (di i2)) :: ((.d .bool (db (ltI i5 i2))) :: (us 2 ((.d .str (dS s1)) :: ((.d (.int .i64) (di i5)) :: ((.d (.int .u8) (D.int .u8 (byteAt s1 i5.toNat))) :: ((.d (.int .i64) (di (cv .i64 (byteAt s1 i5.toNat)))) :: ((.d (.int .i64) (di (cv .i64 (byteAt s1 i5.toNat)))) :: ((.d .bool (db (ltI (cv .i64 (byteAt s1 i5.toNat)) 128))) :: ((.d .bool (db true)) :: ((.tup []) :: ((.tup []) :: ((.d .bool (db true)) :: (us 22 [])))))))))))))))))))))))))) []
  | .e1 s1 i2 i3 i4 i5 => k .ret ((.d .str (dS s1)) :: (us 1 ((.d (.int .i64) (di (-1))) :: ((.d (.int .i64) (di 1)) :: (us 1 ((.d (.int .i64) (di i2)) :: ((.d (.int .i64) (di i3)) :: ((.d (.int .i64) (di i4)) :: ((.d (.int .i64) (di i5)) :: ((.d (.int .i64) (di (cv .i64 (byteAt s1 i5.toNat)))) :: (us 38 ((.d (.int .i64) (di i5)) :: ((.d (.int .i64) (di i2)) :: ((.d .bool (db (ltI i5 i2))) :: (us 2 ((.d .str (dS s1)) :: ((.d (.int .i64) (di i5)) :: ((.d (.int .u8) (D.int .u8 (byteAt s1 i5.toNat))) :: ((.d (.int .i64) (di (cv .i64 (byteAt s1 i5.toNat)))) :: ((.d (.int .i64) (di (cv .i64 (byteAt s1 i5.toNat)))) :: ((.d .bool (db (ltI (cv .i64 (byteAt s1 i5.toNat)) 128))) :: ((.d .bool (db false)) :: ((.d (.int .i64) (di (cv .i64 (byteAt s1 i5.toNat)))) :: ((.d .bool (db (gtI (cv .i64 (byteAt s1 i5.toNat)) 191))) :: ((.d .bool (db (gtI (cv .i64 (byteAt s1 i5.toNat)) 191))) :: (us 22 [])))))))))))))))))))))))))) []
  | .e2 s1 i2 i3 i4 i5 => k (.exit 0) ((.d .str (dS s1)) :: (us 4 ((.d (.int .i64) (di i2)) :: ((.d (.int .i64) (di i3)) :: ((.d (.int .i64) (di i4)) :: ((.d (.int .i64) (di i5)) :: (us 39 ((.d (.int .i64) (di i5)) :: ((.d (.int .i64) (di i2)) :: ((.d .bool (db (ltI i5 i2))) :: (us 34 []))))))))))) []
def ps22 : List PV := ((.d .str .str) :: (up 4 ((.d (.int .i64) (.int .i64)) :: ((.d (.int .i64) (.int .i64)) :: ((.d (.int .i64) (.int .i64)) :: ((.d (.int .i64) (.int .i64)) :: (up 76 [])))))))
def qs22 : List PO := []
noncomputable def sum22 (M : Nat) : Sum := sumS [0, 5, 6, 7, 8] ps22 qs22 [] of22 (st22 M) ex22 M
theorem sok22 (M : Nat) : SumOk (loopRd (e M) 74 22) (e M) (call (e M) 11) 74 0 (loopAt (e M) 74 22) (sum22 M) :=
  sumOk_st (T := tblOf (t74_0 M)) (n0 := 0) (lv := lv22) (t74_0_ok M) (by kernel_rfl) rfl (by intro ls s h; unfold of22 at h; (repeat' split at h) <;> simp at h; subst h; rfl) (by intro s; kernel_rfl) (by intro s; kernel_rfl) (by intro s nx k; kernel_rfl)
noncomputable def t74_1 (M : Nat) : List Ent := ⟨74, 11, 0, 22, sum22 M⟩ :: t74_0 M
theorem t74_1_ok (M : Nat) : AllOk (e M) (tblOf (t74_1 M)) := (t74_0_ok M).add ⟨74, 11, 0, 22, sum22 M⟩ (by kernel_rfl) (sok22 M)
def s (M : Nat) (p0 : ByteArray) : Option D :=
  (cond (inb 0 p0.size) (cond (ltI (cv .i64 (byteAt p0 0)) 128) (some (D.tup [(di (cv .i64 (byteAt p0 0))), (di 1)])) (cond (geI (cv .i64 (byteAt p0 0)) 194) (cond (ltI (cv .i64 (byteAt p0 0)) 224) (cond (ltI (nI p0.size) 2) (some (D.tup [(di (-1)), (di 1)])) (goS (st22 M) M ⟨p0, 2, 128, (sb .i64 (cv .i64 (byteAt p0 0)) 192), 1⟩ fun x => match x with | .e0 s1 i2 i3 i4 i5 => (some (D.tup [(di (-1)), (di 1)])) | .e1 s1 i2 i3 i4 i5 => (some (D.tup [(di (-1)), (di 1)])) | .e2 s1 i2 i3 i4 i5 => (cond (ltI i4 i3) (some (D.tup [(di (-1)), (di 1)])) (cond (gtI i4 1114111) (some (D.tup [(di (-1)), (di 1)])) (cond (geI i4 55296) (cond (leI i4 57343) (some (D.tup [(di (-1)), (di 1)])) (some (D.tup [(di i4), (di i2)]))) (some (D.tup [(di i4), (di i2)]))))))) (cond (geI (cv .i64 (byteAt p0 0)) 224) (cond (ltI (cv .i64 (byteAt p0 0)) 240) (cond (ltI (nI p0.size) 3) (some (D.tup [(di (-1)), (di 1)])) (goS (st22 M) M ⟨p0, 3, 2048, (sb .i64 (cv .i64 (byteAt p0 0)) 224), 1⟩ fun x => match x with | .e0 s1 i2 i3 i4 i5 => (some (D.tup [(di (-1)), (di 1)])) | .e1 s1 i2 i3 i4 i5 => (some (D.tup [(di (-1)), (di 1)])) | .e2 s1 i2 i3 i4 i5 => (cond (ltI i4 i3) (some (D.tup [(di (-1)), (di 1)])) (cond (gtI i4 1114111) (some (D.tup [(di (-1)), (di 1)])) (cond (geI i4 55296) (cond (leI i4 57343) (some (D.tup [(di (-1)), (di 1)])) (some (D.tup [(di i4), (di i2)]))) (some (D.tup [(di i4), (di i2)]))))))) (cond (geI (cv .i64 (byteAt p0 0)) 240) (cond (ltI (cv .i64 (byteAt p0 0)) 245) (cond (ltI (nI p0.size) 4) (some (D.tup [(di (-1)), (di 1)])) (goS (st22 M) M ⟨p0, 4, 65536, (sb .i64 (cv .i64 (byteAt p0 0)) 240), 1⟩ fun x => match x with | .e0 s1 i2 i3 i4 i5 => (some (D.tup [(di (-1)), (di 1)])) | .e1 s1 i2 i3 i4 i5 => (some (D.tup [(di (-1)), (di 1)])) | .e2 s1 i2 i3 i4 i5 => (cond (ltI i4 i3) (some (D.tup [(di (-1)), (di 1)])) (cond (gtI i4 1114111) (some (D.tup [(di (-1)), (di 1)])) (cond (geI i4 55296) (cond (leI i4 57343) (some (D.tup [(di (-1)), (di 1)])) (some (D.tup [(di i4), (di i2)]))) (some (D.tup [(di i4), (di i2)]))))))) (some (D.tup [(di (-1)), (di 1)]))) (some (D.tup [(di (-1)), (di 1)])))) (cond (geI (cv .i64 (byteAt p0 0)) 240) (cond (ltI (cv .i64 (byteAt p0 0)) 245) (cond (ltI (nI p0.size) 4) (some (D.tup [(di (-1)), (di 1)])) (goS (st22 M) M ⟨p0, 4, 65536, (sb .i64 (cv .i64 (byteAt p0 0)) 240), 1⟩ fun x => match x with | .e0 s1 i2 i3 i4 i5 => (some (D.tup [(di (-1)), (di 1)])) | .e1 s1 i2 i3 i4 i5 => (some (D.tup [(di (-1)), (di 1)])) | .e2 s1 i2 i3 i4 i5 => (cond (ltI i4 i3) (some (D.tup [(di (-1)), (di 1)])) (cond (gtI i4 1114111) (some (D.tup [(di (-1)), (di 1)])) (cond (geI i4 55296) (cond (leI i4 57343) (some (D.tup [(di (-1)), (di 1)])) (some (D.tup [(di i4), (di i2)]))) (some (D.tup [(di i4), (di i2)]))))))) (some (D.tup [(di (-1)), (di 1)]))) (some (D.tup [(di (-1)), (di 1)]))))) (cond (geI (cv .i64 (byteAt p0 0)) 224) (cond (ltI (cv .i64 (byteAt p0 0)) 240) (cond (ltI (nI p0.size) 3) (some (D.tup [(di (-1)), (di 1)])) (goS (st22 M) M ⟨p0, 3, 2048, (sb .i64 (cv .i64 (byteAt p0 0)) 224), 1⟩ fun x => match x with | .e0 s1 i2 i3 i4 i5 => (some (D.tup [(di (-1)), (di 1)])) | .e1 s1 i2 i3 i4 i5 => (some (D.tup [(di (-1)), (di 1)])) | .e2 s1 i2 i3 i4 i5 => (cond (ltI i4 i3) (some (D.tup [(di (-1)), (di 1)])) (cond (gtI i4 1114111) (some (D.tup [(di (-1)), (di 1)])) (cond (geI i4 55296) (cond (leI i4 57343) (some (D.tup [(di (-1)), (di 1)])) (some (D.tup [(di i4), (di i2)]))) (some (D.tup [(di i4), (di i2)]))))))) (cond (geI (cv .i64 (byteAt p0 0)) 240) (cond (ltI (cv .i64 (byteAt p0 0)) 245) (cond (ltI (nI p0.size) 4) (some (D.tup [(di (-1)), (di 1)])) (goS (st22 M) M ⟨p0, 4, 65536, (sb .i64 (cv .i64 (byteAt p0 0)) 240), 1⟩ fun x => match x with | .e0 s1 i2 i3 i4 i5 => (some (D.tup [(di (-1)), (di 1)])) | .e1 s1 i2 i3 i4 i5 => (some (D.tup [(di (-1)), (di 1)])) | .e2 s1 i2 i3 i4 i5 => (cond (ltI i4 i3) (some (D.tup [(di (-1)), (di 1)])) (cond (gtI i4 1114111) (some (D.tup [(di (-1)), (di 1)])) (cond (geI i4 55296) (cond (leI i4 57343) (some (D.tup [(di (-1)), (di 1)])) (some (D.tup [(di i4), (di i2)]))) (some (D.tup [(di i4), (di i2)]))))))) (some (D.tup [(di (-1)), (di 1)]))) (some (D.tup [(di (-1)), (di 1)])))) (cond (geI (cv .i64 (byteAt p0 0)) 240) (cond (ltI (cv .i64 (byteAt p0 0)) 245) (cond (ltI (nI p0.size) 4) (some (D.tup [(di (-1)), (di 1)])) (goS (st22 M) M ⟨p0, 4, 65536, (sb .i64 (cv .i64 (byteAt p0 0)) 240), 1⟩ fun x => match x with | .e0 s1 i2 i3 i4 i5 => (some (D.tup [(di (-1)), (di 1)])) | .e1 s1 i2 i3 i4 i5 => (some (D.tup [(di (-1)), (di 1)])) | .e2 s1 i2 i3 i4 i5 => (cond (ltI i4 i3) (some (D.tup [(di (-1)), (di 1)])) (cond (gtI i4 1114111) (some (D.tup [(di (-1)), (di 1)])) (cond (geI i4 55296) (cond (leI i4 57343) (some (D.tup [(di (-1)), (di 1)])) (some (D.tup [(di i4), (di i2)]))) (some (D.tup [(di i4), (di i2)]))))))) (some (D.tup [(di (-1)), (di 1)]))) (some (D.tup [(di (-1)), (di 1)])))))) none)
theorem run (M : Nat) (p0 : ByteArray) : callS (e M) (tblOf (t74_1 M)) 12 (.fn 74) [.d .str (dS p0)] [] (fun v H => finish ty [3, 3] v H) = s M p0 := by kernel_rfl
noncomputable abbrev t (M : Nat) : List Ent := t74_1 M
theorem t_ok (M : Nat) : AllOk (e M) (tblOf (t M)) := t74_1_ok M
def c : Con := { run := fun ds => match ds with | [p0] => s FUEL p0.s | _ => none, fresh := false, plain := true }
theorem fun_at : Tryd.prog.funcs[74]? = some Tryd.f74 := by kernel_rfl
theorem params : Tryd.f74.params.toList.map ty = [.str] := by kernel_rfl
theorem results : Tryd.f74.resultTypes.toList = [3, 3] := by kernel_rfl
theorem flat : Tryd.f74.resultTypes.toList.all (fun t => K.flat ty 20 (ty t)) = true := by kernel_rfl
theorem ok : ConOk (74, c) := by
  intro fn hfn
  obtain rfl : Tryd.f74 = fn := Option.some.inj (fun_at.symm.trans hfn)
  refine contract_flat (n := 20) hgl (fun _ => flat) (fun ds r hh0 hr => ?_)
  rw [params] at hh0
  obtain ⟨p0, ds0, rfl, h0, hh1⟩ := hass_cons hh0
  obtain ⟨p0, rfl⟩ := has_str h0
  obtain rfl := hass_nil hh1
  refine ⟨e FUEL, DEPTH, tblOf (t FUEL), envOk allNil allNil, rfl, t_ok FUEL, ?_⟩
  rw [params, results]
  exact (run FUEL p0).trans hr
end F74
namespace F41
def cons : List (Nat × Con) := [(74, F74.c)]
def exts : List (Nat × Ext) := []
def h : List (Nat × Nat × Hint) := [(41, 3, { live := [0, 3, 4], rows := [(3, 3)], own := false, inpl := false })]
noncomputable def e (M : Nat) : Env := env cons exts h M
noncomputable def t41_0 (_ : Nat) : List Ent := []
theorem t41_0_ok (M : Nat) : AllOk (e M) (tblOf (t41_0 M)) := AllOk.nil
structure S3 where
  s1 : ByteArray
  n2 : Nat
  n3 : Nat
  i4 : Int
  b5 : Bool
  l6 : (List D)
inductive X3 where
  | e0 (s1 : ByteArray) (n2 : Nat) (n3 : Nat) (i4 : Int) (b5 : Bool) (l6 : (List D))
def st3 (M : Nat) : S3 → (S3 → Option D) → (X3 → Option D) → Option D
  | ⟨s1, n2, n3, i4, b5, l6⟩, rec, K => (cond (ltI i4 (nI s1.size)) (cond ((leI 0 i4) && (leI i4 (nI s1.size)) && (leI (nI s1.size) (nI s1.size)) && (leI (nI s1.size) (nI s1.size))) (bd (F74.s FUEL (s1.extract i4.toNat s1.size)) fun r7 => (cond (ltI (r7.at 0).i 0) (cond (inb i4 s1.size) (cond (mx (n3 + 1)) (rec ⟨s1, 0, (n3 + 1), (ad .i64 i4 (r7.at 1).i), (b5 || true), (ap ((l6.drop n2).take n3) [(di (ad .i64 1114112 (cv .i64 (byteAt s1 i4.toNat))))])⟩) none) none) (cond (mx (n3 + 1)) (rec ⟨s1, 0, (n3 + 1), (ad .i64 i4 (r7.at 1).i), (b5 || true), (ap ((l6.drop n2).take n3) [(r7.at 0)])⟩) none))) none) (K (.e0 s1 n2 n3 i4 b5 l6)))
def lv3 : S3 → List Leaf
  | ⟨s1, n2, n3, i4, b5, l6⟩ => [.s s1, .n n2, .n n3, .i i4, .b b5, .l l6]
def of3 : List Leaf → Option S3
  | [.s s1, .n n2, .n n3, .i i4, .b b5, .l l6] => some ⟨s1, n2, n3, i4, b5, l6⟩
  | _ => none
def ex3 (k : Kont) : X3 → Option D
  | .e0 s1 n2 n3 i4 b5 l6 => k (.exit 0) ((.d .str (dS s1)) :: (us 2 ((.sref 0 n2 n3) :: ((.d (.int .i64) (di i4)) :: (us 2 ((.d (.int .i64) (di i4)) :: ((.d .str (dS s1)) :: ((.d (.int .i64) (di (nI s1.size))) :: ((.d .bool (db (ltI i4 (nI s1.size)))) :: (us 22 [])))))))))) [(.row 3 true b5 l6)]
def ps3 : List PV := ((.d .str .str) :: (up 2 ((.sref 0) :: ((.d (.int .i64) (.int .i64)) :: (up 28 [])))))
def qs3 : List PO := [(.row 3 true)]
noncomputable def sum3 (M : Nat) : Sum := sumS [0, 3, 4] ps3 qs3 [(3, 0)] of3 (st3 M) ex3 M
theorem sok3 (M : Nat) : SumOk (loopRd (e M) 41 3) (e M) (call (e M) 11) 41 0 (loopAt (e M) 41 3) (sum3 M) :=
  sumOk_st (T := tblOf (t41_0 M)) (n0 := 1) (lv := lv3) (t41_0_ok M) (by kernel_rfl) rfl (by intro ls s h; unfold of3 at h; (repeat' split at h) <;> simp at h; subst h; rfl) (by intro s; kernel_rfl) (by intro s; kernel_rfl) (by intro s nx k; kernel_rfl)
noncomputable def t41_1 (M : Nat) : List Ent := ⟨41, 11, 0, 3, sum3 M⟩ :: t41_0 M
theorem t41_1_ok (M : Nat) : AllOk (e M) (tblOf (t41_1 M)) := (t41_0_ok M).add ⟨41, 11, 0, 3, sum3 M⟩ (by kernel_rfl) (sok3 M)
def s (M : Nat) (p0 : ByteArray) : Option D :=
  (goS (st3 M) M ⟨p0, 0, 0, 0, false, []⟩ fun x => match x with | .e0 s1 n2 n3 i4 b5 l6 => (cond ((decide (n3 = l6.length)) && (decide (n2 = 0))) (some (.slice b5 l6)) none))
theorem run (M : Nat) (p0 : ByteArray) : callS (e M) (tblOf (t41_1 M)) 12 (.fn 41) [.d .str (dS p0)] [] (fun v H => finishFresh ty [64] v H) = s M p0 := by kernel_rfl
noncomputable abbrev t (M : Nat) : List Ent := t41_1 M
theorem t_ok (M : Nat) : AllOk (e M) (tblOf (t M)) := t41_1_ok M
def c : Con := { run := fun ds => match ds with | [p0] => s FUEL p0.s | _ => none, fresh := true, plain := false }
theorem fun_at : Tryd.prog.funcs[41]? = some Tryd.f41 := by kernel_rfl
theorem params : Tryd.f41.params.toList.map ty = [.str] := by kernel_rfl
theorem results : Tryd.f41.resultTypes.toList = [64] := by kernel_rfl
theorem ok : ConOk (41, c) := by
  intro fn hfn
  obtain rfl : Tryd.f41 = fn := Option.some.inj (fun_at.symm.trans hfn)
  refine contract_of_fresh hgl rfl rfl (fun ds r hh0 hr => ?_)
  rw [params] at hh0
  obtain ⟨p0, ds0, rfl, h0, hh1⟩ := hass_cons hh0
  obtain ⟨p0, rfl⟩ := has_str h0
  obtain rfl := hass_nil hh1
  refine ⟨e FUEL, DEPTH, tblOf (t FUEL), envOk (allCons F74.ok allNil) allNil, rfl, t_ok FUEL, ?_⟩
  rw [params, results]
  exact (run FUEL p0).trans hr
end F41
namespace F23
def cons : List (Nat × Con) := [(41, F41.c)]
def exts : List (Nat × Ext) := []
def h : List (Nat × Nat × Hint) := [(23, 4, { live := [5, 6, 7], rows := [], own := false, inpl := false })]
noncomputable def e (M : Nat) : Env := env cons exts h M
noncomputable def t23_0 (_ : Nat) : List Ent := []
theorem t23_0_ok (M : Nat) : AllOk (e M) (tblOf (t23_0 M)) := AllOk.nil
structure S4 where
  n3 : Nat
  n4 : Nat
  n5 : Nat
  n6 : Nat
  i7 : Int
  b8 : Bool
  l9 : (List D)
  b10 : Bool
  l11 : (List D)
inductive X4 where
  | e0 (n3 : Nat) (n4 : Nat) (n5 : Nat) (n6 : Nat) (i7 : Int) (b8 : Bool) (l9 : (List D)) (b10 : Bool) (l11 : (List D))
  | e1 (n3 : Nat) (n4 : Nat) (n5 : Nat) (n6 : Nat) (i7 : Int) (b8 : Bool) (l9 : (List D)) (b10 : Bool) (l11 : (List D))
  | e2 (n3 : Nat) (n4 : Nat) (n5 : Nat) (n6 : Nat) (i7 : Int) (b8 : Bool) (l9 : (List D)) (b10 : Bool) (l11 : (List D))
def st4 (M : Nat) : S4 → (S4 → Option D) → (X4 → Option D) → Option D
  | ⟨n3, n4, n5, n6, i7, b8, l9, b10, l11⟩, rec, K => (cond (ltI i7 (nI n4)) (cond (ltI i7 (nI n6)) (cond (inb i7 n4) (cond (inb i7 n6) (cond (neI (ix l9 (n3 + i7.toNat)).i (ix l11 (n5 + i7.toNat)).i) (cond (inb i7 n4) (cond (inb i7 n6) (K (.e0 n3 n4 n5 n6 i7 b8 l9 b10 l11)) none) none) (rec ⟨n3, n4, n5, n6, (ad .i64 i7 1), b8, l9, b10, l11⟩)) none) none) (K (.e1 n3 n4 n5 n6 i7 b8 l9 b10 l11))) (K (.e2 n3 n4 n5 n6 i7 b8 l9 b10 l11)))
def lv4 : S4 → List Leaf
  | ⟨n3, n4, n5, n6, i7, b8, l9, b10, l11⟩ => [.n n3, .n n4, .n n5, .n n6, .i i7, .b b8, .l l9, .b b10, .l l11]
def of4 : List Leaf → Option S4
  | [.n n3, .n n4, .n n5, .n n6, .i i7, .b b8, .l l9, .b b10, .l l11] => some ⟨n3, n4, n5, n6, i7, b8, l9, b10, l11⟩
  | _ => none
def ex4 (k : Kont) : X4 → Option D
  | .e0 n3 n4 n5 n6 i7 b8 l9 b10 l11 => k .ret (us 4 ((.d .bool (db (ltI (ix l9 (n3 + i7.toNat)).i (ix l11 (n5 + i7.toNat)).i))) :: ((.sref 0 n3 n4) :: ((.sref 1 n5 n6) :: ((.d (.int .i64) (di i7)) :: (us 4 ((.d (.int .i64) (di i7)) :: ((.sref 0 n3 n4) :: ((.d (.int .i64) (di (nI n4))) :: ((.d .bool (db (ltI i7 (nI n4)))) :: ((.d .bool (db true)) :: ((.d (.int .i64) (di i7)) :: ((.sref 1 n5 n6) :: ((.d (.int .i64) (di (nI n6))) :: ((.d .bool (db (ltI i7 (nI n6)))) :: ((.d .bool (db (ltI i7 (nI n6)))) :: (us 2 ((.sref 0 n3 n4) :: ((.d (.int .i64) (di i7)) :: ((.ptr 0 [(n3 + i7.toNat)] (.int .i64)) :: ((.d (.int .i64) (ix l9 (n3 + i7.toNat))) :: ((.sref 1 n5 n6) :: ((.d (.int .i64) (di i7)) :: ((.ptr 1 [(n5 + i7.toNat)] (.int .i64)) :: ((.d (.int .i64) (ix l11 (n5 + i7.toNat))) :: ((.d .bool (db (neI (ix l9 (n3 + i7.toNat)).i (ix l11 (n5 + i7.toNat)).i))) :: ((.sref 0 n3 n4) :: ((.d (.int .i64) (di i7)) :: ((.ptr 0 [(n3 + i7.toNat)] (.int .i64)) :: ((.d (.int .i64) (ix l9 (n3 + i7.toNat))) :: ((.sref 1 n5 n6) :: ((.d (.int .i64) (di i7)) :: ((.ptr 1 [(n5 + i7.toNat)] (.int .i64)) :: ((.d (.int .i64) (ix l11 (n5 + i7.toNat))) :: ((.d .bool (db (ltI (ix l9 (n3 + i7.toNat)).i (ix l11 (n5 + i7.toNat)).i))) :: (us 5 [])))))))))))))))))))))))))))))))))))) [(.row 3 true b8 l9), (.row 3 true b10 l11)]
  | .e1 n3 n4 n5 n6 i7 b8 l9 b10 l11 => k (.exit 0) (us 5 ((.sref 0 n3 n4) :: ((.sref 1 n5 n6) :: ((.d (.int .i64) (di i7)) :: (us 4 ((.d (.int .i64) (di i7)) :: ((.sref 0 n3 n4) :: ((.d (.int .i64) (di (nI n4))) :: ((.d .bool (db (ltI i7 (nI n4)))) :: ((.d .bool (db true)) :: ((.d (.int .i64) (di i7)) :: ((.sref 1 n5 n6) :: ((.d (.int .i64) (di (nI n6))) :: ((.d .bool (db (ltI i7 (nI n6)))) :: ((.d .bool (db (ltI i7 (nI n6)))) :: (us 25 [])))))))))))))))) [(.row 3 true b8 l9), (.row 3 true b10 l11)]
  | .e2 n3 n4 n5 n6 i7 b8 l9 b10 l11 => k (.exit 0) (us 5 ((.sref 0 n3 n4) :: ((.sref 1 n5 n6) :: ((.d (.int .i64) (di i7)) :: (us 4 ((.d (.int .i64) (di i7)) :: ((.sref 0 n3 n4) :: ((.d (.int .i64) (di (nI n4))) :: ((.d .bool (db (ltI i7 (nI n4)))) :: ((.d .bool (db false)) :: ((.tup []) :: ((.tup []) :: ((.tup []) :: ((.tup []) :: ((.d .bool (db false)) :: (us 25 [])))))))))))))))) [(.row 3 true b8 l9), (.row 3 true b10 l11)]
def ps4 : List PV := (up 5 ((.sref 0) :: ((.sref 1) :: ((.d (.int .i64) (.int .i64)) :: (up 39 [])))))
def qs4 : List PO := [(.row 3 true), (.row 3 true)]
noncomputable def sum4 (M : Nat) : Sum := sumS [5, 6, 7] ps4 qs4 [] of4 (st4 M) ex4 M
theorem sok4 (M : Nat) : SumOk (loopRd (e M) 23 4) (e M) (call (e M) 11) 23 0 (loopAt (e M) 23 4) (sum4 M) :=
  sumOk_st (T := tblOf (t23_0 M)) (n0 := 2) (lv := lv4) (t23_0_ok M) (by kernel_rfl) rfl (by intro ls s h; unfold of4 at h; (repeat' split at h) <;> simp at h; subst h; rfl) (by intro s; kernel_rfl) (by intro s; kernel_rfl) (by intro s nx k; kernel_rfl)
noncomputable def t23_1 (M : Nat) : List Ent := ⟨23, 11, 0, 4, sum4 M⟩ :: t23_0 M
theorem t23_1_ok (M : Nat) : AllOk (e M) (tblOf (t23_1 M)) := (t23_0_ok M).add ⟨23, 11, 0, 4, sum4 M⟩ (by kernel_rfl) (sok4 M)
def s (M : Nat) (p0 : ByteArray) (p1 : ByteArray) : Option D :=
  (bd (F41.s FUEL p0) fun r1 => (bd (F41.s FUEL p1) fun r2 => (goS (st4 M) M ⟨0, r1.elems.length, 0, r2.elems.length, 0, r1.nn, r1.elems, r2.nn, r2.elems⟩ fun x => match x with | .e0 n3 n4 n5 n6 i7 b8 l9 b10 l11 => (some (db (ltI (ix l9 (n3 + i7.toNat)).i (ix l11 (n5 + i7.toNat)).i))) | .e1 n3 n4 n5 n6 i7 b8 l9 b10 l11 => (some (db (ltI (nI n4) (nI n6)))) | .e2 n3 n4 n5 n6 i7 b8 l9 b10 l11 => (some (db (ltI (nI n4) (nI n6)))))))
theorem run (M : Nat) (p0 : ByteArray) (p1 : ByteArray) : callS (e M) (tblOf (t23_1 M)) 12 (.fn 23) [.d .str (dS p0), .d .str (dS p1)] [] (fun v H => finish ty [4] v H) = s M p0 p1 := by kernel_rfl
noncomputable abbrev t (M : Nat) : List Ent := t23_1 M
theorem t_ok (M : Nat) : AllOk (e M) (tblOf (t M)) := t23_1_ok M
def c : Con := { run := fun ds => match ds with | [p0, p1] => s FUEL p0.s p1.s | _ => none, fresh := false, plain := true }
theorem fun_at : Tryd.prog.funcs[23]? = some Tryd.f23 := by kernel_rfl
theorem params : Tryd.f23.params.toList.map ty = [.str, .str] := by kernel_rfl
theorem results : Tryd.f23.resultTypes.toList = [4] := by kernel_rfl
theorem flat : Tryd.f23.resultTypes.toList.all (fun t => K.flat ty 20 (ty t)) = true := by kernel_rfl
theorem ok : ConOk (23, c) := by
  intro fn hfn
  obtain rfl : Tryd.f23 = fn := Option.some.inj (fun_at.symm.trans hfn)
  refine contract_flat (n := 20) hgl (fun _ => flat) (fun ds r hh0 hr => ?_)
  rw [params] at hh0
  obtain ⟨p0, ds0, rfl, h0, hh1⟩ := hass_cons hh0
  obtain ⟨p0, rfl⟩ := has_str h0
  obtain ⟨p1, ds1, rfl, h1, hh2⟩ := hass_cons hh1
  obtain ⟨p1, rfl⟩ := has_str h1
  obtain rfl := hass_nil hh2
  refine ⟨e FUEL, DEPTH, tblOf (t FUEL), envOk (allCons F41.ok allNil) allNil, rfl, t_ok FUEL, ?_⟩
  rw [params, results]
  exact (run FUEL p0 p1).trans hr
end F23
namespace F7
def cons : List (Nat × Con) := [(17, F17.c), (18, F18.c), (19, F19.c), (20, F20.c), (23, F23.c)]
def exts : List (Nat × Ext) := []
def h : List (Nat × Nat × Hint) := [(7, 12, { live := [3, 5, 9, 11], rows := [], own := false, inpl := false })]
noncomputable def e (M : Nat) : Env := env cons exts h M
noncomputable def t7_0 (_ : Nat) : List Ent := []
theorem t7_0_ok (M : Nat) : AllOk (e M) (tblOf (t7_0 M)) := AllOk.nil
structure S12 where
  d5 : D
  i6 : Int
  d7 : D
  d8 : D
  d9 : D
inductive X12 where
  | e0 (d5 : D) (i6 : Int) (d7 : D) (d8 : D) (d9 : D) (r10 : D)
  | e1 (d5 : D) (i6 : Int) (d7 : D) (d8 : D) (d9 : D) (r10 : D) (r11 : D)
  | e2 (d5 : D) (i6 : Int) (d7 : D) (d8 : D) (d9 : D) (r10 : D) (r11 : D)
  | e3 (d5 : D) (i6 : Int) (d7 : D) (d8 : D) (d9 : D) (r10 : D) (r11 : D)
  | e4 (d5 : D) (i6 : Int) (d7 : D) (d8 : D) (d9 : D) (r12 : D)
  | e5 (d5 : D) (i6 : Int) (d7 : D) (d8 : D) (d9 : D) (r12 : D)
  | e6 (d5 : D) (i6 : Int) (d7 : D) (d8 : D) (d9 : D) (r12 : D)
  | e (d5 : D) (i6 : Int) (d7 : D) (d8 : D) (d9 : D)
def st12 (M : Nat) : S12 → (S12 → Option D) → (X12 → Option D) → Option D
  | ⟨d5, i6, d7, d8, d9⟩, rec, K => (cond (ltI i6 (nI (d9.at 4).elems.length)) (cond (gtI i6 0) (cond (inb (sb .i64 i6 1) (d9.at 4).elems.length) (cond (inb i6 (d9.at 4).elems.length) (bd (F23.s FUEL (ix (d9.at 4).elems (sb .i64 i6 1).toNat).s (ix (d9.at 4).elems i6.toNat).s) fun r10 => (cond (!r10.b) (K (.e0 d5 i6 d7 d8 d9 r10)) (cond (inb i6 (d9.at 4).elems.length) (bd (F20.s FUEL d7 (da [(di 10), (ix (d9.at 4).elems i6.toNat), (dS (bs [])), (di 0), (di 0), (di 0)])) fun r11 => (cond (neI ((r11.at 1).at 0).i 0) (K (.e1 d5 i6 d7 d8 d9 r10 r11)) (cond (inb i6 (d9.at 4).elems.length) (cond (!(eqS (((r11.at 1).at 3).at 1).s (ix (d9.at 4).elems i6.toNat).s)) (K (.e2 d5 i6 d7 d8 d9 r10 r11)) (cond (!(eqS (((r11.at 1).at 3).at 2).s (bs []))) (K (.e3 d5 i6 d7 d8 d9 r10 r11)) (rec ⟨d5, (ad .i64 i6 1), d7, d8, d9⟩))) none))) none))) none) none) (cond (inb i6 (d9.at 4).elems.length) (bd (F20.s FUEL d7 (da [(di 10), (ix (d9.at 4).elems i6.toNat), (dS (bs [])), (di 0), (di 0), (di 0)])) fun r12 => (cond (neI ((r12.at 1).at 0).i 0) (K (.e4 d5 i6 d7 d8 d9 r12)) (cond (inb i6 (d9.at 4).elems.length) (cond (!(eqS (((r12.at 1).at 3).at 1).s (ix (d9.at 4).elems i6.toNat).s)) (K (.e5 d5 i6 d7 d8 d9 r12)) (cond (!(eqS (((r12.at 1).at 3).at 2).s (bs []))) (K (.e6 d5 i6 d7 d8 d9 r12)) (rec ⟨d5, (ad .i64 i6 1), d7, d8, d9⟩))) none))) none)) (K (.e d5 i6 d7 d8 d9)))
def lv12 : S12 → List Leaf
  | ⟨d5, i6, d7, d8, d9⟩ => [.d d5, .i i6, .d d7, .d d8, .d d9]
def of12 : List Leaf → Option S12
  | [.d d5, .i i6, .d d7, .d d8, .d d9] => some ⟨d5, i6, d7, d8, d9⟩
  | _ => none
def ex12 (k : Kont) : X12 → Option D
  | .e0 d5 i6 d7 d8 d9 r10 => k .ret (us 2 ((.d .bool (db false)) :: ((.d .bool d5) :: (us 1 ((.ptr 0 [] (.struct [49, 3, 3])) :: (us 3 ((.ptr 2 [] (.struct [28, 3, 9, 42, 40])) :: (us 1 ((.d (.int .i64) (di i6)) :: ((.d .bool r10) :: (us 32 ((.d (.int .i64) (di i6)) :: ((.ptr 2 [4] (.slice 9)) :: ((.d (.slice 9) (d9.at 4)) :: ((.d (.int .i64) (di (nI (d9.at 4).elems.length))) :: ((.d .bool (db (ltI i6 (nI (d9.at 4).elems.length)))) :: (us 2 ((.d (.int .i64) (di i6)) :: ((.d .bool (db (gtI i6 0))) :: ((.ptr 2 [4] (.slice 9)) :: ((.d (.slice 9) (d9.at 4)) :: ((.d (.int .i64) (di i6)) :: ((.d (.int .i64) (di (sb .i64 i6 1))) :: ((.cptr .str (ix (d9.at 4).elems (sb .i64 i6 1).toNat)) :: ((.d .str (ix (d9.at 4).elems (sb .i64 i6 1).toNat)) :: ((.ptr 2 [4] (.slice 9)) :: ((.d (.slice 9) (d9.at 4)) :: ((.d (.int .i64) (di i6)) :: ((.cptr .str (ix (d9.at 4).elems i6.toNat)) :: ((.d .str (ix (d9.at 4).elems i6.toNat)) :: ((.d .bool r10) :: ((.d .bool r10) :: ((.d .bool (db (!r10.b))) :: (us 33 [])))))))))))))))))))))))))))))))))) [(.var (.struct [49, 3, 3]) (.d (.struct [49, 3, 3]) d7)), (.var (.struct [49, 3, 3]) (.d (.struct [49, 3, 3]) d8)), (.var (.struct [28, 3, 9, 42, 40]) (.d (.struct [28, 3, 9, 42, 40]) d9))]
  | .e1 d5 i6 d7 d8 d9 r10 r11 => k .ret (us 2 ((.d .bool (db false)) :: ((.d .bool d5) :: (us 1 ((.ptr 0 [] (.struct [49, 3, 3])) :: (us 3 ((.ptr 2 [] (.struct [28, 3, 9, 42, 40])) :: (us 1 ((.d (.int .i64) (di i6)) :: ((.d .bool r10) :: ((.ptr 3 [] (.struct [49, 3, 3])) :: ((.ptr 4 [] (.struct [28, 3, 9, 42, 40])) :: ((.d (.slice 38) (r11.at 2)) :: (us 29 ((.d (.int .i64) (di i6)) :: ((.ptr 2 [4] (.slice 9)) :: ((.d (.slice 9) (d9.at 4)) :: ((.d (.int .i64) (di (nI (d9.at 4).elems.length))) :: ((.d .bool (db (ltI i6 (nI (d9.at 4).elems.length)))) :: (us 2 ((.d (.int .i64) (di i6)) :: ((.d .bool (db (gtI i6 0))) :: ((.ptr 2 [4] (.slice 9)) :: ((.d (.slice 9) (d9.at 4)) :: ((.d (.int .i64) (di i6)) :: ((.d (.int .i64) (di (sb .i64 i6 1))) :: ((.cptr .str (ix (d9.at 4).elems (sb .i64 i6 1).toNat)) :: ((.d .str (ix (d9.at 4).elems (sb .i64 i6 1).toNat)) :: ((.ptr 2 [4] (.slice 9)) :: ((.d (.slice 9) (d9.at 4)) :: ((.d (.int .i64) (di i6)) :: ((.cptr .str (ix (d9.at 4).elems i6.toNat)) :: ((.d .str (ix (d9.at 4).elems i6.toNat)) :: ((.d .bool r10) :: ((.d .bool r10) :: ((.d .bool (db (!r10.b))) :: ((.dtup [(.struct [49, 3, 3]), (.struct [28, 3, 9, 42, 40]), (.slice 38)] r11) :: ((.d (.struct [49, 3, 3]) d7) :: ((.ptr 2 [4] (.slice 9)) :: ((.d (.slice 9) (d9.at 4)) :: ((.d (.int .i64) (di i6)) :: ((.cptr .str (ix (d9.at 4).elems i6.toNat)) :: ((.d .str (ix (d9.at 4).elems i6.toNat)) :: ((.d (.struct [34, 9, 9, 3, 3, 3]) (da [(di 10), (ix (d9.at 4).elems i6.toNat), (dS (bs [])), (di 0), (di 0), (di 0)])) :: ((.dtup [(.struct [49, 3, 3]), (.struct [28, 3, 9, 42, 40]), (.slice 38)] r11) :: ((.d (.struct [49, 3, 3]) (r11.at 0)) :: ((.d (.struct [28, 3, 9, 42, 40]) (r11.at 1)) :: ((.d (.slice 38) (r11.at 2)) :: ((.ptr 4 [0] (.int .i64)) :: ((.d (.int .i64) ((r11.at 1).at 0)) :: ((.d .bool (db (neI ((r11.at 1).at 0).i 0))) :: ((.d .bool (db true)) :: ((.tup []) :: ((.tup []) :: ((.tup []) :: ((.tup []) :: ((.tup []) :: ((.tup []) :: ((.tup []) :: ((.tup []) :: ((.tup []) :: ((.d .bool (db true)) :: ((.d .bool (db true)) :: ((.tup []) :: ((.tup []) :: ((.tup []) :: ((.tup []) :: ((.d .bool (db true)) :: (us 1 []))))))))))))))))))))))))))))))))))))))))))))))))))))))))))))))))))))) [(.var (.struct [49, 3, 3]) (.d (.struct [49, 3, 3]) d7)), (.var (.struct [49, 3, 3]) (.d (.struct [49, 3, 3]) d8)), (.var (.struct [28, 3, 9, 42, 40]) (.d (.struct [28, 3, 9, 42, 40]) d9)), (.var (.struct [49, 3, 3]) (.d (.struct [49, 3, 3]) (r11.at 0))), (.var (.struct [28, 3, 9, 42, 40]) (.d (.struct [28, 3, 9, 42, 40]) (r11.at 1)))]
  | .e2 d5 i6 d7 d8 d9 r10 r11 => k .ret (us 2 ((.d .bool (db false)) :: ((.d .bool d5) :: (us 1 ((.ptr 0 [] (.struct [49, 3, 3])) :: (us 3 ((.ptr 2 [] (.struct [28, 3, 9, 42, 40])) :: (us 1 ((.d (.int .i64) (di i6)) :: ((.d .bool r10) :: ((.ptr 3 [] (.struct [49, 3, 3])) :: ((.ptr 4 [] (.struct [28, 3, 9, 42, 40])) :: ((.d (.slice 38) (r11.at 2)) :: (us 29 ((.d (.int .i64) (di i6)) :: ((.ptr 2 [4] (.slice 9)) :: ((.d (.slice 9) (d9.at 4)) :: ((.d (.int .i64) (di (nI (d9.at 4).elems.length))) :: ((.d .bool (db (ltI i6 (nI (d9.at 4).elems.length)))) :: (us 2 ((.d (.int .i64) (di i6)) :: ((.d .bool (db (gtI i6 0))) :: ((.ptr 2 [4] (.slice 9)) :: ((.d (.slice 9) (d9.at 4)) :: ((.d (.int .i64) (di i6)) :: ((.d (.int .i64) (di (sb .i64 i6 1))) :: ((.cptr .str (ix (d9.at 4).elems (sb .i64 i6 1).toNat)) :: ((.d .str (ix (d9.at 4).elems (sb .i64 i6 1).toNat)) :: ((.ptr 2 [4] (.slice 9)) :: ((.d (.slice 9) (d9.at 4)) :: ((.d (.int .i64) (di i6)) :: ((.cptr .str (ix (d9.at 4).elems i6.toNat)) :: ((.d .str (ix (d9.at 4).elems i6.toNat)) :: ((.d .bool r10) :: ((.d .bool r10) :: ((.d .bool (db (!r10.b))) :: ((.dtup [(.struct [49, 3, 3]), (.struct [28, 3, 9, 42, 40]), (.slice 38)] r11) :: ((.d (.struct [49, 3, 3]) d7) :: ((.ptr 2 [4] (.slice 9)) :: ((.d (.slice 9) (d9.at 4)) :: ((.d (.int .i64) (di i6)) :: ((.cptr .str (ix (d9.at 4).elems i6.toNat)) :: ((.d .str (ix (d9.at 4).elems i6.toNat)) :: ((.d (.struct [34, 9, 9, 3, 3, 3]) (da [(di 10), (ix (d9.at 4).elems i6.toNat), (dS (bs [])), (di 0), (di 0), (di 0)])) :: ((.dtup [(.struct [49, 3, 3]), (.struct [28, 3, 9, 42, 40]), (.slice 38)] r11) :: ((.d (.struct [49, 3, 3]) (r11.at 0)) :: ((.d (.struct [28, 3, 9, 42, 40]) (r11.at 1)) :: ((.d (.slice 38) (r11.at 2)) :: ((.ptr 4 [0] (.int .i64)) :: ((.d (.int .i64) ((r11.at 1).at 0)) :: ((.d .bool (db (neI ((r11.at 1).at 0).i 0))) :: ((.d .bool (db false)) :: ((.ptr 4 [3] (.struct [3, 9, 9, 4, 3, 40])) :: ((.ptr 4 [3, 1] .str) :: ((.d .str (((r11.at 1).at 3).at 1)) :: ((.ptr 2 [4] (.slice 9)) :: ((.d (.slice 9) (d9.at 4)) :: ((.d (.int .i64) (di i6)) :: ((.cptr .str (ix (d9.at 4).elems i6.toNat)) :: ((.d .str (ix (d9.at 4).elems i6.toNat)) :: ((.d .bool (db (!(eqS (((r11.at 1).at 3).at 1).s (ix (d9.at 4).elems i6.toNat).s)))) :: ((.d .bool (db (!(eqS (((r11.at 1).at 3).at 1).s (ix (d9.at 4).elems i6.toNat).s)))) :: ((.d .bool (db true)) :: ((.tup []) :: ((.tup []) :: ((.tup []) :: ((.tup []) :: ((.d .bool (db true)) :: (us 1 []))))))))))))))))))))))))))))))))))))))))))))))))))))))))))))))))))))) [(.var (.struct [49, 3, 3]) (.d (.struct [49, 3, 3]) d7)), (.var (.struct [49, 3, 3]) (.d (.struct [49, 3, 3]) d8)), (.var (.struct [28, 3, 9, 42, 40]) (.d (.struct [28, 3, 9, 42, 40]) d9)), (.var (.struct [49, 3, 3]) (.d (.struct [49, 3, 3]) (r11.at 0))), (.var (.struct [28, 3, 9, 42, 40]) (.d (.struct [28, 3, 9, 42, 40]) (r11.at 1)))]
  | .e3 d5 i6 d7 d8 d9 r10 r11 => k .ret (us 2 ((.d .bool (db false)) :: ((.d .bool d5) :: (us 1 ((.ptr 0 [] (.struct [49, 3, 3])) :: (us 3 ((.ptr 2 [] (.struct [28, 3, 9, 42, 40])) :: (us 1 ((.d (.int .i64) (di i6)) :: ((.d .bool r10) :: ((.ptr 3 [] (.struct [49, 3, 3])) :: ((.ptr 4 [] (.struct [28, 3, 9, 42, 40])) :: ((.d (.slice 38) (r11.at 2)) :: (us 29 ((.d (.int .i64) (di i6)) :: ((.ptr 2 [4] (.slice 9)) :: ((.d (.slice 9) (d9.at 4)) :: ((.d (.int .i64) (di (nI (d9.at 4).elems.length))) :: ((.d .bool (db (ltI i6 (nI (d9.at 4).elems.length)))) :: (us 2 ((.d (.int .i64) (di i6)) :: ((.d .bool (db (gtI i6 0))) :: ((.ptr 2 [4] (.slice 9)) :: ((.d (.slice 9) (d9.at 4)) :: ((.d (.int .i64) (di i6)) :: ((.d (.int .i64) (di (sb .i64 i6 1))) :: ((.cptr .str (ix (d9.at 4).elems (sb .i64 i6 1).toNat)) :: ((.d .str (ix (d9.at 4).elems (sb .i64 i6 1).toNat)) :: ((.ptr 2 [4] (.slice 9)) :: ((.d (.slice 9) (d9.at 4)) :: ((.d (.int .i64) (di i6)) :: ((.cptr .str (ix (d9.at 4).elems i6.toNat)) :: ((.d .str (ix (d9.at 4).elems i6.toNat)) :: ((.d .bool r10) :: ((.d .bool r10) :: ((.d .bool (db (!r10.b))) :: ((.dtup [(.struct [49, 3, 3]), (.struct [28, 3, 9, 42, 40]), (.slice 38)] r11) :: ((.d (.struct [49, 3, 3]) d7) :: ((.ptr 2 [4] (.slice 9)) :: ((.d (.slice 9) (d9.at 4)) :: ((.d (.int .i64) (di i6)) :: ((.cptr .str (ix (d9.at 4).elems i6.toNat)) :: ((.d .str (ix (d9.at 4).elems i6.toNat)) :: ((.d (.struct [34, 9, 9, 3, 3, 3]) (da [(di 10), (ix (d9.at 4).elems i6.toNat), (dS (bs [])), (di 0), (di 0), (di 0)])) :: ((.dtup [(.struct [49, 3, 3]), (.struct [28, 3, 9, 42, 40]), (.slice 38)] r11) :: ((.d (.struct [49, 3, 3]) (r11.at 0)) :: ((.d (.struct [28, 3, 9, 42, 40]) (r11.at 1)) :: ((.d (.slice 38) (r11.at 2)) :: ((.ptr 4 [0] (.int .i64)) :: ((.d (.int .i64) ((r11.at 1).at 0)) :: ((.d .bool (db (neI ((r11.at 1).at 0).i 0))) :: ((.d .bool (db false)) :: ((.ptr 4 [3] (.struct [3, 9, 9, 4, 3, 40])) :: ((.ptr 4 [3, 1] .str) :: ((.d .str (((r11.at 1).at 3).at 1)) :: ((.ptr 2 [4] (.slice 9)) :: ((.d (.slice 9) (d9.at 4)) :: ((.d (.int .i64) (di i6)) :: ((.cptr .str (ix (d9.at 4).elems i6.toNat)) :: ((.d .str (ix (d9.at 4).elems i6.toNat)) :: ((.d .bool (db (!(eqS (((r11.at 1).at 3).at 1).s (ix (d9.at 4).elems i6.toNat).s)))) :: ((.d .bool (db (!(eqS (((r11.at 1).at 3).at 1).s (ix (d9.at 4).elems i6.toNat).s)))) :: ((.d .bool (db false)) :: ((.ptr 4 [3] (.struct [3, 9, 9, 4, 3, 40])) :: ((.ptr 4 [3, 2] .str) :: ((.d .str (((r11.at 1).at 3).at 2)) :: ((.d .bool (db (!(eqS (((r11.at 1).at 3).at 2).s (bs []))))) :: ((.d .bool (db (!(eqS (((r11.at 1).at 3).at 2).s (bs []))))) :: (us 1 []))))))))))))))))))))))))))))))))))))))))))))))))))))))))))))))))))))) [(.var (.struct [49, 3, 3]) (.d (.struct [49, 3, 3]) d7)), (.var (.struct [49, 3, 3]) (.d (.struct [49, 3, 3]) d8)), (.var (.struct [28, 3, 9, 42, 40]) (.d (.struct [28, 3, 9, 42, 40]) d9)), (.var (.struct [49, 3, 3]) (.d (.struct [49, 3, 3]) (r11.at 0))), (.var (.struct [28, 3, 9, 42, 40]) (.d (.struct [28, 3, 9, 42, 40]) (r11.at 1)))]
  | .e4 d5 i6 d7 d8 d9 r12 => k .ret (us 2 ((.d .bool (db false)) :: ((.d .bool d5) :: (us 1 ((.ptr 0 [] (.struct [49, 3, 3])) :: (us 3 ((.ptr 2 [] (.struct [28, 3, 9, 42, 40])) :: (us 1 ((.d (.int .i64) (di i6)) :: (us 1 ((.ptr 3 [] (.struct [49, 3, 3])) :: ((.ptr 4 [] (.struct [28, 3, 9, 42, 40])) :: ((.d (.slice 38) (r12.at 2)) :: (us 29 ((.d (.int .i64) (di i6)) :: ((.ptr 2 [4] (.slice 9)) :: ((.d (.slice 9) (d9.at 4)) :: ((.d (.int .i64) (di (nI (d9.at 4).elems.length))) :: ((.d .bool (db (ltI i6 (nI (d9.at 4).elems.length)))) :: (us 2 ((.d (.int .i64) (di i6)) :: ((.d .bool (db (gtI i6 0))) :: (us 14 ((.dtup [(.struct [49, 3, 3]), (.struct [28, 3, 9, 42, 40]), (.slice 38)] r12) :: ((.d (.struct [49, 3, 3]) d7) :: ((.ptr 2 [4] (.slice 9)) :: ((.d (.slice 9) (d9.at 4)) :: ((.d (.int .i64) (di i6)) :: ((.cptr .str (ix (d9.at 4).elems i6.toNat)) :: ((.d .str (ix (d9.at 4).elems i6.toNat)) :: ((.d (.struct [34, 9, 9, 3, 3, 3]) (da [(di 10), (ix (d9.at 4).elems i6.toNat), (dS (bs [])), (di 0), (di 0), (di 0)])) :: ((.dtup [(.struct [49, 3, 3]), (.struct [28, 3, 9, 42, 40]), (.slice 38)] r12) :: ((.d (.struct [49, 3, 3]) (r12.at 0)) :: ((.d (.struct [28, 3, 9, 42, 40]) (r12.at 1)) :: ((.d (.slice 38) (r12.at 2)) :: ((.ptr 4 [0] (.int .i64)) :: ((.d (.int .i64) ((r12.at 1).at 0)) :: ((.d .bool (db (neI ((r12.at 1).at 0).i 0))) :: ((.d .bool (db true)) :: ((.tup []) :: ((.tup []) :: ((.tup []) :: ((.tup []) :: ((.tup []) :: ((.tup []) :: ((.tup []) :: ((.tup []) :: ((.tup []) :: ((.d .bool (db true)) :: ((.d .bool (db true)) :: ((.tup []) :: ((.tup []) :: ((.tup []) :: ((.tup []) :: ((.d .bool (db true)) :: (us 1 [])))))))))))))))))))))))))))))))))))))))))))))))))))))))) [(.var (.struct [49, 3, 3]) (.d (.struct [49, 3, 3]) d7)), (.var (.struct [49, 3, 3]) (.d (.struct [49, 3, 3]) d8)), (.var (.struct [28, 3, 9, 42, 40]) (.d (.struct [28, 3, 9, 42, 40]) d9)), (.var (.struct [49, 3, 3]) (.d (.struct [49, 3, 3]) (r12.at 0))), (.var (.struct [28, 3, 9, 42, 40]) (.d (.struct [28, 3, 9, 42, 40]) (r12.at 1)))]
  | .e5 d5 i6 d7 d8 d9 r12 => k .ret (us 2 ((.d .bool (db false)) :: ((.d .bool d5) :: (us 1 ((.ptr 0 [] (.struct [49, 3, 3])) :: (us 3 ((.ptr 2 [] (.struct [28, 3, 9, 42, 40])) :: (us 1 ((.d (.int .i64) (di i6)) :: (us 1 ((.ptr 3 [] (.struct [49, 3, 3])) :: ((.ptr 4 [] (.struct [28, 3, 9, 42, 40])) :: ((.d (.slice 38) (r12.at 2)) :: (us 29 ((.d (.int .i64) (di i6)) :: ((.ptr 2 [4] (.slice 9)) :: ((.d (.slice 9) (d9.at 4)) :: ((.d (.int .i64) (di (nI (d9.at 4).elems.length))) :: ((.d .bool (db (ltI i6 (nI (d9.at 4).elems.length)))) :: (us 2 ((.d (.int .i64) (di i6)) :: ((.d .bool (db (gtI i6 0))) :: (us 14 ((.dtup [(.struct [49, 3, 3]), (.struct [28, 3, 9, 42, 40]), (.slice 38)] r12) :: ((.d (.struct [49, 3, 3]) d7) :: ((.ptr 2 [4] (.slice 9)) :: ((.d (.slice 9) (d9.at 4)) :: ((.d (.int .i64) (di i6)) :: ((.cptr .str (ix (d9.at 4).elems i6.toNat)) :: ((.d .str (ix (d9.at 4).elems i6.toNat)) :: ((.d (.struct [34, 9, 9, 3, 3, 3]) (da [(di 10), (ix (d9.at 4).elems i6.toNat), (dS (bs [])), (di 0), (di 0), (di 0)])) :: ((.dtup [(.struct [49, 3, 3]), (.struct [28, 3, 9, 42, 40]), (.slice 38)] r12) :: ((.d (.struct [49, 3, 3]) (r12.at 0)) :: ((.d (.struct [28, 3, 9, 42, 40]) (r12.at 1)) :: ((.d (.slice 38) (r12.at 2)) :: ((.ptr 4 [0] (.int .i64)) :: ((.d (.int .i64) ((r12.at 1).at 0)) :: ((.d .bool (db (neI ((r12.at 1).at 0).i 0))) :: ((.d .bool (db false)) :: ((.ptr 4 [3] (.struct [3, 9, 9, 4, 3, 40])) :: ((.ptr 4 [3, 1] .str) :: ((.d .str (((r12.at 1).at 3).at 1)) :: ((.ptr 2 [4] (.slice 9)) :: ((.d (.slice 9) (d9.at 4)) :: ((.d (.int .i64) (di i6)) :: ((.cptr .str (ix (d9.at 4).elems i6.toNat)) :: ((.d .str (ix (d9.at 4).elems i6.toNat)) :: ((.d .bool (db (!(eqS (((r12.at 1).at 3).at 1).s (ix (d9.at 4).elems i6.toNat).s)))) :: ((.d .bool (db (!(eqS (((r12.at 1).at 3).at 1).s (ix (d9.at 4).elems i6.toNat).s)))) :: ((.d .bool (db true)) :: ((.tup []) :: ((.tup []) :: ((.tup []) :: ((.tup []) :: ((.d .bool (db true)) :: (us 1 [])))))))))))))))))))))))))))))))))))))))))))))))))))))))) [(.var (.struct [49, 3, 3]) (.d (.struct [49, 3, 3]) d7)), (.var (.struct [49, 3, 3]) (.d (.struct [49, 3, 3]) d8)), (.var (.struct [28, 3, 9, 42, 40]) (.d (.struct [28, 3, 9, 42, 40]) d9)), (.var (.struct [49, 3, 3]) (.d (.struct [49, 3, 3]) (r12.at 0))), (.var (.struct [28, 3, 9, 42, 40]) (.d (.struct [28, 3, 9, 42, 40]) (r12.at 1)))]
  | .e6 d5 i6 d7 d8 d9 r12 => k .ret (us 2 ((.d .bool (db false)) :: ((.d .bool d5) :: (us 1 ((.ptr 0 [] (.struct [49, 3, 3])) :: (us 3 ((.ptr 2 [] (.struct [28, 3, 9, 42, 40])) :: (us 1 ((.d (.int .i64) (di i6)) :: (us 1 ((.ptr 3 [] (.struct [49, 3, 3])) :: ((.ptr 4 [] (.struct [28, 3, 9, 42, 40])) :: ((.d (.slice 38) (r12.at 2)) :: (us 29 ((.d (.int .i64) (di i6)) :: ((.ptr 2 [4] (.slice 9)) :: ((.d (.slice 9) (d9.at 4)) :: ((.d (.int .i64) (di (nI (d9.at 4).elems.length))) :: ((.d .bool (db (ltI i6 (nI (d9.at 4).elems.length)))) :: (us 2 ((.d (.int .i64) (di i6)) :: ((.d .bool (db (gtI i6 0))) :: (us 14 ((.dtup [(.struct [49, 3, 3]), (.struct [28, 3, 9, 42, 40]), (.slice 38)] r12) :: ((.d (.struct [49, 3, 3]) d7) :: ((.ptr 2 [4] (.slice 9)) :: ((.d (.slice 9) (d9.at 4)) :: ((.d (.int .i64) (di i6)) :: ((.cptr .str (ix (d9.at 4).elems i6.toNat)) :: ((.d .str (ix (d9.at 4).elems i6.toNat)) :: ((.d (.struct [34, 9, 9, 3, 3, 3]) (da [(di 10), (ix (d9.at 4).elems i6.toNat), (dS (bs [])), (di 0), (di 0), (di 0)])) :: ((.dtup [(.struct [49, 3, 3]), (.struct [28, 3, 9, 42, 40]), (.slice 38)] r12) :: ((.d (.struct [49, 3, 3]) (r12.at 0)) :: ((.d (.struct [28, 3, 9, 42, 40]) (r12.at 1)) :: ((.d (.slice 38) (r12.at 2)) :: ((.ptr 4 [0] (.int .i64)) :: ((.d (.int .i64) ((r12.at 1).at 0)) :: ((.d .bool (db (neI ((r12.at 1).at 0).i 0))) :: ((.d .bool (db false)) :: ((.ptr 4 [3] (.struct [3, 9, 9, 4, 3, 40])) :: ((.ptr 4 [3, 1] .str) :: ((.d .str (((r12.at 1).at 3).at 1)) :: ((.ptr 2 [4] (.slice 9)) :: ((.d (.slice 9) (d9.at 4)) :: ((.d (.int .i64) (di i6)) :: ((.cptr .str (ix (d9.at 4).elems i6.toNat)) :: ((.d .str (ix (d9.at 4).elems i6.toNat)) :: ((.d .bool (db (!(eqS (((r12.at 1).at 3).at 1).s (ix (d9.at 4).elems i6.toNat).s)))) :: ((.d .bool (db (!(eqS (((r12.at 1).at 3).at 1).s (ix (d9.at 4).elems i6.toNat).s)))) :: ((.d .bool (db false)) :: ((.ptr 4 [3] (.struct [3, 9, 9, 4, 3, 40])) :: ((.ptr 4 [3, 2] .str) :: ((.d .str (((r12.at 1).at 3).at 2)) :: ((.d .bool (db (!(eqS (((r12.at 1).at 3).at 2).s (bs []))))) :: ((.d .bool (db (!(eqS (((r12.at 1).at 3).at 2).s (bs []))))) :: (us 1 [])))))))))))))))))))))))))))))))))))))))))))))))))))))))) [(.var (.struct [49, 3, 3]) (.d (.struct [49, 3, 3]) d7)), (.var (.struct [49, 3, 3]) (.d (.struct [49, 3, 3]) d8)), (.var (.struct [28, 3, 9, 42, 40]) (.d (.struct [28, 3, 9, 42, 40]) d9)), (.var (.struct [49, 3, 3]) (.d (.struct [49, 3, 3]) (r12.at 0))), (.var (.struct [28, 3, 9, 42, 40]) (.d (.struct [28, 3, 9, 42, 40]) (r12.at 1)))]
  | .e d5 i6 d7 d8 d9 => k (.exit 0) (us 3 ((.d .bool d5) :: (us 1 ((.ptr 0 [] (.struct [49, 3, 3])) :: (us 3 ((.ptr 2 [] (.struct [28, 3, 9, 42, 40])) :: (us 1 ((.d (.int .i64) (di i6)) :: (us 33 ((.d (.int .i64) (di i6)) :: ((.ptr 2 [4] (.slice 9)) :: ((.d (.slice 9) (d9.at 4)) :: ((.d (.int .i64) (di (nI (d9.at 4).elems.length))) :: ((.d .bool (db (ltI i6 (nI (d9.at 4).elems.length)))) :: (us 51 []))))))))))))))) [(.var (.struct [49, 3, 3]) (.d (.struct [49, 3, 3]) d7)), (.var (.struct [49, 3, 3]) (.d (.struct [49, 3, 3]) d8)), (.var (.struct [28, 3, 9, 42, 40]) (.d (.struct [28, 3, 9, 42, 40]) d9))]
def ps12 : List PV := (up 3 ((.d .bool .x) :: (up 1 ((.ptr 0 [] (.struct [49, 3, 3])) :: (up 3 ((.ptr 2 [] (.struct [28, 3, 9, 42, 40])) :: (up 1 ((.d (.int .i64) (.int .i64)) :: (up 89 [])))))))))
def qs12 : List PO := [(.var (.struct [49, 3, 3]) (.d (.struct [49, 3, 3]) .x)), (.var (.struct [49, 3, 3]) (.d (.struct [49, 3, 3]) .x)), (.var (.struct [28, 3, 9, 42, 40]) (.d (.struct [28, 3, 9, 42, 40]) .x))]
noncomputable def sum12 (M : Nat) : Sum := sumS [3, 5, 9, 11] ps12 qs12 [] of12 (st12 M) ex12 M
theorem sok12 (M : Nat) : SumOk (loopRd (e M) 7 12) (e M) (call (e M) 11) 7 0 (loopAt (e M) 7 12) (sum12 M) :=
  sumOk_st (T := tblOf (t7_0 M)) (n0 := 3) (lv := lv12) (t7_0_ok M) (by kernel_rfl) rfl (by intro ls s h; unfold of12 at h; (repeat' split at h) <;> simp at h; subst h; rfl) (by intro s; kernel_rfl) (by intro s; kernel_rfl) (by intro s nx k; kernel_rfl)
noncomputable def t7_1 (M : Nat) : List Ent := ⟨7, 11, 0, 12, sum12 M⟩ :: t7_0 M
theorem t7_1_ok (M : Nat) : AllOk (e M) (tblOf (t7_1 M)) := (t7_0_ok M).add ⟨7, 11, 0, 12, sum12 M⟩ (by kernel_rfl) (sok12 M)
def s (M : Nat) (p0 : D) : Option D :=
  (bd (F17.s FUEL) fun r1 => (cond (!r1.b) (some (db false)) (bd (F18.s FUEL p0) fun r2 => (cond (!r2.b) (some r1) (bd (F19.s FUEL (da [(dl false []), (di 0), (di 0)]) p0) fun r3 => (bd (F20.s FUEL (r3.at 0) (da [(di 11), (dS (bs [])), (dS (bs [])), (di 0), (di 0), (di 0)])) fun r4 => (cond (neI (nI ((r4.at 1).at 4).elems.length) (nI ((r3.at 0).at 0).elems.length)) (some (db false)) (goS (st12 M) M ⟨r1, 0, (r3.at 0), (r4.at 0), (r4.at 1)⟩ fun x => match x with | .e0 d5 i6 d7 d8 d9 r10 => (some (db false)) | .e1 d5 i6 d7 d8 d9 r10 r11 => (some (db false)) | .e2 d5 i6 d7 d8 d9 r10 r11 => (some (db false)) | .e3 d5 i6 d7 d8 d9 r10 r11 => (some (db false)) | .e4 d5 i6 d7 d8 d9 r12 => (some (db false)) | .e5 d5 i6 d7 d8 d9 r12 => (some (db false)) | .e6 d5 i6 d7 d8 d9 r12 => (some (db false)) | .e d5 i6 d7 d8 d9 => (some d5)))))))))
theorem run (M : Nat) (p0 : D) : callS (e M) (tblOf (t7_1 M)) 12 (.fn 7) [.d (.slice 47) p0] [] (fun v H => finish ty [4] v H) = s M p0 := by kernel_rfl
noncomputable abbrev t (M : Nat) : List Ent := t7_1 M
theorem t_ok (M : Nat) : AllOk (e M) (tblOf (t M)) := t7_1_ok M
def c : Con := { run := fun ds => match ds with | [p0] => s FUEL p0 | _ => none, fresh := false, plain := true }
theorem fun_at : Tryd.prog.funcs[7]? = some Tryd.f7 := by kernel_rfl
theorem params : Tryd.f7.params.toList.map ty = [(.slice 47)] := by kernel_rfl
theorem results : Tryd.f7.resultTypes.toList = [4] := by kernel_rfl
theorem flat : Tryd.f7.resultTypes.toList.all (fun t => K.flat ty 20 (ty t)) = true := by kernel_rfl
theorem ok : ConOk (7, c) := by
  intro fn hfn
  obtain rfl : Tryd.f7 = fn := Option.some.inj (fun_at.symm.trans hfn)
  refine contract_flat (n := 20) hgl (fun _ => flat) (fun ds r hh0 hr => ?_)
  rw [params] at hh0
  obtain ⟨p0, ds0, rfl, h0, hh1⟩ := hass_cons hh0
  obtain rfl := hass_nil hh1
  refine ⟨e FUEL, DEPTH, tblOf (t FUEL), envOk (allCons F17.ok (allCons F18.ok (allCons F19.ok (allCons F20.ok (allCons F23.ok allNil))))) allNil, rfl, t_ok FUEL, ?_⟩
  rw [params, results]
  exact (run FUEL p0).trans hr
end F7
namespace F8
def cons : List (Nat × Con) := [(17, F17.c), (18, F18.c), (19, F19.c), (20, F20.c), (21, F21.c)]
def exts : List (Nat × Ext) := []
def h : List (Nat × Nat × Hint) := [(8, 12, { live := [1, 5, 7, 9, 10, 11, 13], rows := [], own := false, inpl := false })]
noncomputable def e (M : Nat) : Env := env cons exts h M
noncomputable def t8_0 (_ : Nat) : List Ent := []
theorem t8_0_ok (M : Nat) : AllOk (e M) (tblOf (t8_0 M)) := AllOk.nil
structure S12 where
  s5 : ByteArray
  d6 : D
  d7 : D
  i8 : Int
  d9 : D
  d10 : D
  d11 : D
inductive X12 where
  | e0 (s5 : ByteArray) (d6 : D) (d7 : D) (i8 : Int) (d9 : D) (d10 : D) (d11 : D)
  | e1 (s5 : ByteArray) (d6 : D) (d7 : D) (i8 : Int) (d9 : D) (d10 : D) (d11 : D)
def st12 (M : Nat) : S12 → (S12 → Option D) → (X12 → Option D) → Option D
  | ⟨s5, d6, d7, i8, d9, d10, d11⟩, rec, K => (cond (ltI i8 (nI d7.elems.length)) (cond (inb i8 d7.elems.length) (cond (geI ((ix d7.elems i8.toNat).at 1).i (d11.at 1).i) (K (.e0 s5 d6 d7 i8 d9 d10 d11)) (rec ⟨s5, d6, d7, (ad .i64 i8 1), d9, d10, d11⟩)) none) (K (.e1 s5 d6 d7 i8 d9 d10 d11)))
def lv12 : S12 → List Leaf
  | ⟨s5, d6, d7, i8, d9, d10, d11⟩ => [.s s5, .d d6, .d d7, .i i8, .d d9, .d d10, .d d11]
def of12 : List Leaf → Option S12
  | [.s s5, .d d6, .d d7, .i i8, .d d9, .d d10, .d d11] => some ⟨s5, d6, d7, i8, d9, d10, d11⟩
  | _ => none
def ex12 (k : Kont) : X12 → Option D
  | .e0 s5 d6 d7 i8 d9 d10 d11 => k .ret (us 1 ((.d .str (dS s5)) :: (us 2 ((.d .bool (db false)) :: ((.d .bool d6) :: (us 1 ((.ptr 0 [] (.struct [49, 3, 3])) :: (us 1 ((.d (.slice 38) d7) :: ((.ptr 1 [] (.struct [49, 3, 3])) :: ((.ptr 2 [] (.struct [28, 3, 9, 42, 40])) :: (us 1 ((.d (.int .i64) (di i8)) :: (us 39 ((.d (.int .i64) (di i8)) :: ((.d (.slice 38) d7) :: ((.d (.int .i64) (di (nI d7.elems.length))) :: ((.d .bool (db (ltI i8 (nI d7.elems.length)))) :: (us 2 ((.d (.slice 38) d7) :: ((.d (.int .i64) (di i8)) :: ((.cptr (.struct [34, 3, 9, 3, 3, 36]) (ix d7.elems i8.toNat)) :: ((.cptr (.int .i64) ((ix d7.elems i8.toNat).at 1)) :: ((.d (.int .i64) ((ix d7.elems i8.toNat).at 1)) :: ((.ptr 2 [1] (.int .i64)) :: ((.d (.int .i64) (d11.at 1)) :: ((.d .bool (db (geI ((ix d7.elems i8.toNat).at 1).i (d11.at 1).i))) :: (us 26 [])))))))))))))))))))))))))))) [(.var (.struct [49, 3, 3]) (.d (.struct [49, 3, 3]) d9)), (.var (.struct [49, 3, 3]) (.d (.struct [49, 3, 3]) d10)), (.var (.struct [28, 3, 9, 42, 40]) (.d (.struct [28, 3, 9, 42, 40]) d11))]
  | .e1 s5 d6 d7 i8 d9 d10 d11 => k (.exit 0) (us 1 ((.d .str (dS s5)) :: (us 3 ((.d .bool d6) :: (us 1 ((.ptr 0 [] (.struct [49, 3, 3])) :: (us 1 ((.d (.slice 38) d7) :: ((.ptr 1 [] (.struct [49, 3, 3])) :: ((.ptr 2 [] (.struct [28, 3, 9, 42, 40])) :: (us 1 ((.d (.int .i64) (di i8)) :: (us 39 ((.d (.int .i64) (di i8)) :: ((.d (.slice 38) d7) :: ((.d (.int .i64) (di (nI d7.elems.length))) :: ((.d .bool (db (ltI i8 (nI d7.elems.length)))) :: (us 36 [])))))))))))))))))) [(.var (.struct [49, 3, 3]) (.d (.struct [49, 3, 3]) d9)), (.var (.struct [49, 3, 3]) (.d (.struct [49, 3, 3]) d10)), (.var (.struct [28, 3, 9, 42, 40]) (.d (.struct [28, 3, 9, 42, 40]) d11))]
def ps12 : List PV := (up 1 ((.d .str .str) :: (up 3 ((.d .bool .x) :: (up 1 ((.ptr 0 [] (.struct [49, 3, 3])) :: (up 1 ((.d (.slice 38) .x) :: ((.ptr 1 [] (.struct [49, 3, 3])) :: ((.ptr 2 [] (.struct [28, 3, 9, 42, 40])) :: (up 1 ((.d (.int .i64) (.int .i64)) :: (up 79 [])))))))))))))
def qs12 : List PO := [(.var (.struct [49, 3, 3]) (.d (.struct [49, 3, 3]) .x)), (.var (.struct [49, 3, 3]) (.d (.struct [49, 3, 3]) .x)), (.var (.struct [28, 3, 9, 42, 40]) (.d (.struct [28, 3, 9, 42, 40]) .x))]
noncomputable def sum12 (M : Nat) : Sum := sumS [1, 5, 7, 9, 10, 11, 13] ps12 qs12 [] of12 (st12 M) ex12 M
theorem sok12 (M : Nat) : SumOk (loopRd (e M) 8 12) (e M) (call (e M) 11) 8 0 (loopAt (e M) 8 12) (sum12 M) :=
  sumOk_st (T := tblOf (t8_0 M)) (n0 := 3) (lv := lv12) (t8_0_ok M) (by kernel_rfl) rfl (by intro ls s h; unfold of12 at h; (repeat' split at h) <;> simp at h; subst h; rfl) (by intro s; kernel_rfl) (by intro s; kernel_rfl) (by intro s nx k; kernel_rfl)
noncomputable def t8_1 (M : Nat) : List Ent := ⟨8, 11, 0, 12, sum12 M⟩ :: t8_0 M
theorem t8_1_ok (M : Nat) : AllOk (e M) (tblOf (t8_1 M)) := (t8_0_ok M).add ⟨8, 11, 0, 12, sum12 M⟩ (by kernel_rfl) (sok12 M)
def s (M : Nat) (p0 : D) (p1 : ByteArray) : Option D :=
  (bd (F17.s FUEL) fun r1 => (cond (!r1.b) (some (db false)) (bd (F18.s FUEL p0) fun r2 => (cond (!r2.b) (some r1) (cond (gtI (nI p1.size) 200) (some r1) (bd (F19.s FUEL (da [(dl false []), (di 0), (di 0)]) p0) fun r3 => (bd (F20.s FUEL (r3.at 0) (da [(di 0), (dS p1), (dS (bs [])), (di 0), (di 0), (di 0)])) fun r4 => (cond (neI ((r4.at 1).at 0).i 0) (cond r1.b (some (db (eqI ((r4.at 0).at 1).i ((r3.at 0).at 1).i))) (some (db false))) (goS (st12 M) M ⟨p1, r1, (r3.at 2), 0, (r3.at 0), (r4.at 0), (r4.at 1)⟩ fun x => match x with | .e0 s5 d6 d7 i8 d9 d10 d11 => (some (db false)) | .e1 s5 d6 d7 i8 d9 d10 d11 => (bdB d6 fun g12 => (cond g12 (cond (eqI (d11.at 1).i (ad .i64 (d9.at 1).i 1)) (cond (eqI (d10.at 1).i (d11.at 1).i) (bd (F21.s FUEL d10 s5) fun r13 => (some (db (eqI r13.i (sb .i64 (nI (d10.at 0).elems.length) 1))))) (some (db false))) (some (db false))) (some (db false)))))))))))))
theorem run (M : Nat) (p0 : D) (p1 : ByteArray) : callS (e M) (tblOf (t8_1 M)) 12 (.fn 8) [.d (.slice 47) p0, .d .str (dS p1)] [] (fun v H => finish ty [4] v H) = s M p0 p1 := by kernel_rfl
noncomputable abbrev t (M : Nat) : List Ent := t8_1 M
theorem t_ok (M : Nat) : AllOk (e M) (tblOf (t M)) := t8_1_ok M
def c : Con := { run := fun ds => match ds with | [p0, p1] => s FUEL p0 p1.s | _ => none, fresh := false, plain := true }
theorem fun_at : Tryd.prog.funcs[8]? = some Tryd.f8 := by kernel_rfl
theorem params : Tryd.f8.params.toList.map ty = [(.slice 47), .str] := by kernel_rfl
theorem results : Tryd.f8.resultTypes.toList = [4] := by kernel_rfl
theorem flat : Tryd.f8.resultTypes.toList.all (fun t => K.flat ty 20 (ty t)) = true := by kernel_rfl
theorem ok : ConOk (8, c) := by
  intro fn hfn
  obtain rfl : Tryd.f8 = fn := Option.some.inj (fun_at.symm.trans hfn)
  refine contract_flat (n := 20) hgl (fun _ => flat) (fun ds r hh0 hr => ?_)
  rw [params] at hh0
  obtain ⟨p0, ds0, rfl, h0, hh1⟩ := hass_cons hh0
  obtain ⟨p1, ds1, rfl, h1, hh2⟩ := hass_cons hh1
  obtain ⟨p1, rfl⟩ := has_str h1
  obtain rfl := hass_nil hh2
  refine ⟨e FUEL, DEPTH, tblOf (t FUEL), envOk (allCons F17.ok (allCons F18.ok (allCons F19.ok (allCons F20.ok (allCons F21.ok allNil))))) allNil, rfl, t_ok FUEL, ?_⟩
  rw [params, results]
  exact (run FUEL p0 p1).trans hr
end F8
end Go.AM.SD
namespace Go.AM.SD
open Go Go.AM
def newS (s : St) (n : ByteArray) : St := ⟨true, s.files ++ [⟨s.last + 1, n, bs [], false, 0, false, []⟩], s.last + 1, s.floor⟩
theorem create_res (s : St) (o : Mo) : (∃ e : Int, e ≠ 0 ∧ createM s o = stay s e) ∨
    (createM s o = ⟨newS s o.name, ⟨0, s.last + 1, bs [], zeroF, false, []⟩, true, [⟨0, s.last + 1, o.name, 0, 0, zeros⟩]⟩ ∧ (∀ f ∈ s.files, f.name ≠ o.name) ∧ s.last < 1099511627776 ∧ s.files.length < 12) := by
  unfold createM
  split
  · exact .inl ⟨2, by simp, rfl⟩
  split
  · exact .inl ⟨4, by simp, rfl⟩
  split
  · exact .inl ⟨10, by simp, rfl⟩
  split
  · exact .inl ⟨10, by simp, rfl⟩
  rename_i h1 h2 h3 h4
  refine .inr ⟨rfl, fun f hf e => h2 (findI_nonneg.2 ?_), by omega, by omega⟩
  simp only [List.any_eq_true, decide_eq_true_eq]
  exact ⟨f, hf, e⟩
theorem doM_create (sum : ByteArray → List Int) (s : St) (o : Mo) (h : o.kind = 0) : doM sum s o = createM s o := by
  unfold doM
  rw [if_neg (by omega), if_neg (by omega), if_pos h]
theorem runM_ok {l : List Mo} (hl : ∀ o ∈ l, MoOk o) : StOk (runM shaL emptyS l).st := runFrom_ok emptyS_ok hl
theorem mo_ok {k : Int} {n t : ByteArray} {tm a b : Int} (hk : i64ok k) (htm : i64ok tm) (ha : i64ok a) (hb : i64ok b) (hn : n.size ≤ 1000) (ht : t.size ≤ 1000) : MoOk ⟨k, n, t, tm, a, b⟩ := ⟨hk, htm, ha, hb, hn, ht⟩
theorem z64 : i64ok 0 := by simp [i64ok]
theorem numbers_law (nn : Bool) (l : List Mo) (hs : ∀ o ∈ l, o.ok) (n : ByteArray) : F8.s FUEL (dl nn (l.map Mo.enc)) n = some (db true) := by
  unfold F8.s
  refine bdS works_M (cf rfl (bdS (few_specM nn l) ?_))
  cases hf : fewM l with
  | false => exact ct rfl rfl
  | true =>
    obtain ⟨hlen, hl⟩ := few_okM hf hs
    refine cf rfl ?_
    by_cases hn : 200 < n.size
    · exact ct (by simp; omega) rfl
    refine cf (by simp; omega) (bdS (run_spec emptyS nn l emptyS_ok hl (by omega)) ?_)
    have hS := runM_ok hl
    have hev : ∀ e ∈ (runM shaL emptyS l).evs, e.id ≤ (runM shaL emptyS l).st.last := runFrom_last (l := l) (r := run0 emptyS) emptyS_ok hl (by simp [run0])
    have helen : (runM shaL emptyS l).evs.length ≤ 12 * l.length := by
      have key : ∀ (l : List Mo) (r : Run), StOk r.st → (∀ o ∈ l, MoOk o) → (runFrom shaL l r).evs.length ≤ r.evs.length + 12 * l.length := by
        intro l
        induction l with
        | nil => intro r _ _; simp [runFrom]
        | cons o l ih =>
          intro r hr hl
          have h1 := do_evs_len (sum := shaL) (o := o) hr
          have h2 := ih ⟨(doM shaL r.st o).st, true, r.ans ++ [(doM shaL r.st o).an], r.nnE || !(doM shaL r.st o).evs.isEmpty, r.evs ++ (doM shaL r.st o).evs⟩ (do_ok hr (hl o (by simp))) (fun o' h' => hl o' (by simp [h']))
          rw [runFrom]
          simp only [List.length_append, List.length_cons] at h2 ⊢
          omega
      have := key l (run0 emptyS) emptyS_ok hl
      simp only [run0, List.length_nil, Nat.zero_add] at this
      exact this
    generalize hR : runM shaL emptyS l = R at hS hev helen
    have ho : MoOk ⟨0, n, bs [], 0, 0, 0⟩ := mo_ok z64 z64 z64 z64 (by omega) (by simp)
    have l0 := hS.last0
    have l1 := hS.last1
    refine bdS (do_specM R.st ⟨0, n, bs [], 0, 0, 0⟩ hS ho) ?_
    rw [doM_create _ _ _ rfl]
    rcases create_res R.st ⟨0, n, bs [], 0, 0, 0⟩ with ⟨e, he, hc⟩ | ⟨hc, hno, hlt, h12⟩
    · rw [hc]
      refine ct (by show neI e 0 = true; simpa using he) (ct rfl ?_)
      show some (db (eqI R.st.last R.st.last)) = _
      simp [eqI]
    · have hO := create_ok hS ho
      rw [hc] at hO ⊢
      refine cf rfl ?_
      refine goS_rule (fun t : F8.S12 => ∃ k : Nat, t = ⟨n, db true, dl R.nnE (R.evs.map Ev.enc), (k : Int), R.st.enc, (newS R.st n).enc, An.enc ⟨0, R.st.last + 1, bs [], zeroF, false, []⟩⟩ ∧ k ≤ R.evs.length) (fun t => R.evs.length - t.i8.toNat) (fun o => o = some (db true)) ?_ _ _ ⟨0, rfl, by omega⟩ (by simp [FUEL]; omega)
      rintro _ rec ⟨k, rfl, hk⟩ hrec
      simp only [F8.st12]
      by_cases h1 : k < R.evs.length
      · have hadd : ad .i64 (k : Int) 1 = ((k + 1 : Nat) : Int) := by rw [ad64 (by omega) (by omega)]; rfl
        have hid := hev _ (List.getElem_mem h1)
        refine ct (by simp; omega) (ct (by simp; omega) ?_)
        simp only [elems_slice, Int.toNat_natCast, ix_map h1]
        refine cf (by show geI R.evs[k].id (R.st.last + 1) = false; simp; omega) ?_
        rw [hadd]
        exact hrec _ ⟨k + 1, rfl, by omega⟩ (by simp; omega)
      · refine cf (by simp; omega) ?_
        have hadd : ad .i64 R.st.last 1 = R.st.last + 1 := by rw [ad64 (by omega) (by omega)]
        have hOl := hO.len
        show bdB (db true) _ = _
        refine bdBS rfl (ct rfl (ct (by show eqI (R.st.last + 1) (ad .i64 R.st.last 1) = true; rw [hadd]; simp) (ct (by show eqI (R.st.last + 1) (R.st.last + 1) = true; simp) ?_)))
        have hfind : findI (fun f : Fl => decide (f.name = n)) (newS R.st n).files = (R.st.files.length : Int) := by
          refine findI_some (findIdx_some_of (by simp [newS]) (fun i hi hik => ?_) (by simp [newS]))
          have e : (newS R.st n).files[i] = R.st.files[i] := List.getElem_append_left hik
          have := hno _ (List.getElem_mem hik)
          rw [← e] at this
          exact decide_eq_false this
        have hsp := find_specM (newS R.st n) n (by dsimp only at hOl; omega)
        rw [hfind] at hsp
        refine bdS hsp ?_
        have hsub : sb .i64 (nI ((newS R.st n).files.map Fl.enc).length) 1 = (R.st.files.length : Int) := by
          have : ((newS R.st n).files.map Fl.enc).length = R.st.files.length + 1 := by simp [newS]
          rw [this, nI_eq, sb64 (by omega) (by omega)]; omega
        show some (db (eqI (R.st.files.length : Int) (sb .i64 (nI ((newS R.st n).files.map Fl.enc).length) 1))) = _
        rw [hsub]
        simp [eqI]
theorem pure8 : ∀ ds, D.hass ty ds [(.slice 47), .str] → D.wfs ds → F8.c.run ds = some (.bool true) := by
  intro ds h hw
  obtain ⟨d0, _, rfl, h0, h⟩ := hassC h
  obtain ⟨d1, _, rfl, h1, h⟩ := hassC h
  obtain rfl := hass0 h
  simp only [D.wfs] at hw
  obtain ⟨nn, l, rfl, hl⟩ := mos_of h0 hw.1
  obtain ⟨n, rfl⟩ := has_str h1
  exact numbers_law nn l hl n
end Go.AM.SD
namespace Go.AM.SD
open Go Go.AM
theorem findI_at {s : St} {n : ByteArray} {f : Fl} (h : atName s n = some f) : ∃ i, ∃ hi : i < s.files.length, findI (fun f : Fl => decide (f.name = n)) s.files = (i : Int) ∧ s.files[i] = f := by
  obtain ⟨i, hi, h1, h2, _⟩ := at_findM h
  exact ⟨i, hi, findI_some h1, h2⟩
theorem findI_no {s : St} {n : ByteArray} (h : atName s n = none) : findI (fun f : Fl => decide (f.name = n)) s.files = -1 := findI_none (findM_no.2 h)
theorem apart_law (nn : Bool) (l : List Mo) (hs : ∀ o ∈ l, o.ok) (o : Mo) (ho : o.ok) (n : ByteArray) : F6.s FUEL (dl nn (l.map Mo.enc)) o.enc n = some (db true) := by
  unfold F6.s
  refine bdS works_M (cf rfl (bdS (few_specM nn l) ?_))
  cases hf : fewM l with
  | false => exact cf rfl rfl
  | true =>
    obtain ⟨hlen, hl⟩ := few_okM hf hs
    refine ct rfl (bdS (few_specM true [o]) ?_)
    cases hf1 : fewM [o] with
    | false => exact ct rfl rfl
    | true =>
      obtain ⟨_, hl1⟩ := few_okM hf1 (by simpa using ho)
      have hoo := hl1 o (by simp)
      refine cf rfl ?_
      by_cases hn : o.name = n
      · exact ct (by show eqS o.name n = true; simpa using hn) rfl
      refine cf (by show eqS o.name n = false; simpa using hn) ?_
      by_cases h8 : o.kind = 8
      · exact ct (by show eqI o.kind 8 = true; simpa using h8) rfl
      refine cf (by show eqI o.kind 8 = false; simpa using h8) ?_
      by_cases h7 : o.kind = 7
      · exact ct (by show eqI o.kind 7 = true; simpa using h7) rfl
      refine cf (by show eqI o.kind 7 = false; simpa using h7) (bdS (run_spec emptyS nn l emptyS_ok hl (by omega)) ?_)
      have hS : StOk (runM shaL emptyS l).st := runFrom_ok emptyS_ok hl
      generalize hR : runM shaL emptyS l = R at hS
      have hT := do_ok (sum := shaL) hS hoo
      have hap := apart (sum := shaL) hS hoo hn h8
      refine bdS (do_specM R.st o hS hoo) (bdS (find_specM R.st n (by have := hS.len; omega)) (bdS (find_specM (doM shaL R.st o).st n (by have := hT.len; omega)) ?_))
      cases ha : atName R.st n with
      | none =>
        rw [ha] at hap
        rw [findI_no ha, findI_no hap]
        exact ct (by simp) (ct rfl (by simp [eqI]))
      | some f =>
        rw [ha] at hap
        obtain ⟨i, hi, e1, e2⟩ := findI_at ha
        obtain ⟨j, hj, e3, e4⟩ := findI_at hap
        rw [e1, e3]
        have hfo := (hS.files f (by rw [← e2]; exact List.getElem_mem hi)).hold
        refine cf (by simp) (cf (by simp) (bdBS rfl (ct rfl (ct (by show inb (i : Int) (R.st.files.map Fl.enc).length = true; simp; omega) (ct (by show inb (j : Int) ((doM shaL R.st o).st.files.map Fl.enc).length = true; simp; omega) ?_)))))
        have g1 : ix (R.st.files.map Fl.enc) ((di (i : Int)).i).toNat = f.enc := by
          show ix (R.st.files.map Fl.enc) (i : Int).toNat = _
          rw [Int.toNat_natCast, ix_map hi, e2]
        have g2 : ix ((doM shaL R.st o).st.files.map Fl.enc) ((di (j : Int)).i).toNat = f.enc := by
          show ix ((doM shaL R.st o).st.files.map Fl.enc) (j : Int).toNat = _
          rw [Int.toNat_natCast, ix_map hj, e4]
        show (bd (F22.s FUEL (ix (R.st.files.map Fl.enc) ((di (i : Int)).i).toNat) (ix ((doM shaL R.st o).st.files.map Fl.enc) ((di (j : Int)).i).toNat)) fun r9 => some r9) = _
        rw [g1, g2]
        exact bdS (same_ref f (by omega)) rfl
theorem pure6 : ∀ ds, D.hass ty ds [(.slice 47), (.struct [34, 9, 9, 3, 3, 3]), .str] → D.wfs ds → F6.c.run ds = some (.bool true) := by
  intro ds h hw
  obtain ⟨d0, _, rfl, h0, h⟩ := hassC h
  obtain ⟨d1, _, rfl, h1, h⟩ := hassC h
  obtain ⟨d2, _, rfl, h2, h⟩ := hassC h
  obtain rfl := hass0 h
  simp only [D.wfs] at hw
  obtain ⟨nn, l, rfl, hl⟩ := mos_of h0 hw.1
  obtain ⟨o, rfl, ho⟩ := mo_of h1 hw.2.1
  obtain ⟨n, rfl⟩ := has_str h2
  exact apart_law nn l hl o ho n
end Go.AM.SD
namespace Go.AM.SD
open Go Go.AM
theorem doM_sweep (sum : ByteArray → List Int) (s : St) (o : Mo) (h : o.kind = 8) : doM sum s o = sweepM s := by
  unfold doM
  rw [if_neg (by omega), if_neg (by omega), if_neg (by omega), if_neg (by omega), if_pos h]
def opSweep : Mo := ⟨8, bs [], bs [], 0, 0, 0⟩
theorem opSweep_ok : MoOk opSweep := mo_ok (by simp [i64ok]) z64 z64 z64 (by simp) (by simp)
theorem sweep_fact (s : St) (hs : StOk s) : F20.s FUEL s.enc opSweep.enc = some (sweepM s).enc := by
  have := do_specM s opSweep hs opSweep_ok
  rwa [doM_sweep _ _ _ rfl] at this
theorem sweep_ok {s : St} (hs : StOk s) : StOk (sweepM s).st := erase_ok hs List.filter_sublist
theorem sweeps_law (nn : Bool) (l : List Mo) (hs : ∀ o ∈ l, o.ok) : F9.s FUEL (dl nn (l.map Mo.enc)) = some (db true) := by
  unfold F9.s
  refine bdS works_M (cf rfl (bdS (few_specM nn l) ?_))
  cases hf : fewM l with
  | false => exact ct rfl rfl
  | true =>
    obtain ⟨hlen, hl⟩ := few_okM hf hs
    refine cf rfl (bdS (run_spec emptyS nn l emptyS_ok hl (by omega)) ?_)
    have hS : StOk (runM shaL emptyS l).st := runFrom_ok emptyS_ok hl
    generalize hR : runM shaL emptyS l = R at hS
    obtain ⟨S, hSt⟩ : ∃ S : St, S = R.st := ⟨_, rfl⟩
    have hRe : R.enc.at 0 = S.enc := by rw [hSt]; rfl
    rw [← hSt] at hS
    have hl12 := hS.len
    obtain ⟨T, hT⟩ : ∃ T : St, T = (sweepM S).st := ⟨_, rfl⟩
    have hTok : StOk T := by rw [hT]; exact sweep_ok hS
    have hTl := hTok.len
    have hU : sweepM T = ⟨T, ⟨0, 0, bs [], zeroF, false, []⟩, false, []⟩ := by
      have h1 := sweep_again S
      have h2 := due_of_sweep S
      rw [← hT] at h1 h2
      have h3 : sweepM T = ⟨(sweepM T).st, ⟨0, ((dueL T.files T.floor).length : Int), bs [], zeroF, false, []⟩, !(dueL T.files T.floor).isEmpty, (dueL T.files T.floor).map delEv⟩ := rfl
      rw [h3, h1, h2]
      rfl
    have hlens : T.files.length + (dueL S.files S.floor).length = S.files.length := by rw [hT]; exact sweep_len S
    have hsub : ∀ f ∈ T.files, f ∈ S.files := by
      intro f hf
      rw [hT] at hf
      simp only [sweepM, List.mem_filter] at hf
      exact hf.1
    have hSw : sweepM S = ⟨T, ⟨0, ((dueL S.files S.floor).length : Int), bs [], zeroF, false, []⟩, !(dueL S.files S.floor).isEmpty, (dueL S.files S.floor).map delEv⟩ := by rw [hT]; rfl
    have f5 := sweep_fact S hS
    have f6 := sweep_fact T hTok
    rw [hSw] at f5
    rw [hU] at f6
    rw [hRe]
    refine bdS (due_spec S.nn S.files S.floor (by omega)) (bdS f5 (bdS f6 ?_))
    refine cf (by show neI ((dueL S.files S.floor).length : Int) (nI ((dueL S.files S.floor).map di).length) = false; simp) ?_
    refine cf (by show neI (nI (((dueL S.files S.floor).map delEv).map Ev.enc).length) (nI ((dueL S.files S.floor).map di).length) = false; simp) ?_
    refine cf rfl (cf rfl (bdS (same_state hTok) (cf rfl (cf ?_ ?_))))
    · show neI (ad .i64 (nI (T.files.map Fl.enc).length) ((dueL S.files S.floor).length : Int)) (nI (S.files.map Fl.enc).length) = false
      rw [List.length_map, List.length_map, nI_eq, nI_eq, ad64 (by omega) (by omega)]
      simp; omega
    · have h0T : T.enc.at 0 = dl T.nn (T.files.map Fl.enc) := rfl
      have h0S : S.enc.at 0 = dl S.nn (S.files.map Fl.enc) := rfl
      refine goS_rule (fun t : F9.S14 => ∃ (k : Nat) (b : Bool) (L : List D) (d14 d15 d16 : D), t = ⟨db true, (k : Int), S.enc, b, L, T.enc, d14, d15, d16⟩ ∧ k ≤ T.files.length) (fun t => T.files.length - t.i9.toNat) (fun o => o = some (db true)) ?_ _ _ ⟨0, _, _, _, _, _, rfl, by omega⟩ (by simp [FUEL]; omega)
      rintro _ rec ⟨k, b, L, d14, d15, d16, rfl, hk⟩ hrec
      simp only [F9.st14, h0T, h0S]
      by_cases h1 : k < T.files.length
      · have hadd : ad .i64 (k : Int) 1 = ((k + 1 : Nat) : Int) := by rw [ad64 (by omega) (by omega)]; rfl
        have hm := hsub _ (List.getElem_mem h1)
        obtain ⟨j, hj, e1, e2⟩ := findI_at (at_mem hS hm)
        have hho := (hS.files _ hm).hold
        refine ct (by simp; omega) (ct (by simp; omega) ?_)
        simp only [elems_slice, Int.toNat_natCast, ix_map h1]
        refine bdS (find_specM S T.files[k].name (by omega)) ?_
        rw [e1]
        refine cf (by simp) (ct (by simp; omega) (ct (by simp; omega) ?_))
        have g1 : ix (S.files.map Fl.enc) ((di (j : Int)).i).toNat = T.files[k].enc := by
          show ix (S.files.map Fl.enc) (j : Int).toNat = _
          rw [Int.toNat_natCast, ix_map hj, e2]
        rw [g1]
        refine bdS (same_ref T.files[k] (by omega)) (cf rfl ?_)
        rw [hadd]
        exact hrec _ ⟨k + 1, b, L, d14, d15, d16, rfl, by omega⟩ (by simp; omega)
      · refine cf (by simp; omega) ?_
        refine ct rfl (bdS (due_spec T.nn T.files T.floor (by omega)) ?_)
        have h2 := due_of_sweep S
        rw [← hT] at h2
        rw [h2]
        rfl
theorem pure9 : ∀ ds, D.hass ty ds [(.slice 47)] → D.wfs ds → F9.c.run ds = some (.bool true) := by
  intro ds h hw
  obtain ⟨d0, _, rfl, h0, h⟩ := hassC h
  obtain rfl := hass0 h
  simp only [D.wfs] at hw
  obtain ⟨nn, l, rfl, hl⟩ := mos_of h0 hw.1
  exact sweeps_law nn l hl
end Go.AM.SD
