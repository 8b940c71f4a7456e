/- Part 14 of the proof: the abstract machine, what the functions compute, and plain laws over that. -/
import Derived.Test.YtonknblidjpfeaaDoorMd13
set_option linter.all false
set_option linter.unusedSimpArgs false
set_option linter.unusedVariables false
set_option linter.unusedSectionVars false
namespace Go.AM.SD
open Go Go.AM Go.Proofs Go.RowKit
namespace F74
def cons : List (Nat × Con) := []
def exts : List (Nat × Ext) := []
def h : List (Nat × Nat × Hint) := [(74, 22, { live := [0, 5, 6, 7, 8], rows := [], own := false, inpl := false })]
noncomputable def e (M : Nat) : Env := env cons exts h M
noncomputable def t74_0 (_ : Nat) : List Ent := []
theorem t74_0_ok (M : Nat) : AllOk (e M) (tblOf (t74_0 M)) := AllOk.nil
structure S22 where
  s1 : ByteArray
  i2 : Int
  i3 : Int
  i4 : Int
  i5 : Int
inductive X22 where
  | e0 (s1 : ByteArray) (i2 : Int) (i3 : Int) (i4 : Int) (i5 : Int)
  | e1 (s1 : ByteArray) (i2 : Int) (i3 : Int) (i4 : Int) (i5 : Int)
  | e2 (s1 : ByteArray) (i2 : Int) (i3 : Int) (i4 : Int) (i5 : Int)
def st22 (M : Nat) : S22 → (S22 → Option D) → (X22 → Option D) → Option D
  | ⟨s1, i2, i3, i4, i5⟩, rec, K => (cond (ltI i5 i2) (cond (inb i5 s1.size) (cond (ltI (cv .i64 (byteAt s1 i5.toNat)) 128) (K (.e0 s1 i2 i3 i4 i5)) (cond (gtI (cv .i64 (byteAt s1 i5.toNat)) 191) (K (.e1 s1 i2 i3 i4 i5)) (rec ⟨s1, i2, i3, (sb .i64 (ad .i64 (ml .i64 i4 64) (cv .i64 (byteAt s1 i5.toNat))) 128), (ad .i64 i5 1)⟩))) none) (K (.e2 s1 i2 i3 i4 i5)))
def lv22 : S22 → List Leaf
  | ⟨s1, i2, i3, i4, i5⟩ => [.s s1, .i i2, .i i3, .i i4, .i i5]
def of22 : List Leaf → Option S22
  | [.s s1, .i i2, .i i3, .i i4, .i i5] => some ⟨s1, i2, i3, i4, i5⟩
  | _ => none
def ex22 (k : Kont) : X22 → Option D
  | .e0 s1 i2 i3 i4 i5 => k .ret ((.d .str (dS s1)) :: (us 1 ((.d (.int .i64) (di (-1))) :: ((.d (.int .i64) (di 1)) :: (us 1 ((.d (.int .i64) (di i2)) :: ((.d (.int .i64) (di i3)) :: ((.d (.int .i64) (di i4)) :: ((.d (.int .i64) (di i5)) :: ((.d (.int .i64) (di (cv .i64 (byteAt s1 i5.toNat)))) :: (us 38 ((.d (.int .i64) (di i5)) :: ((.d (.int .i64) (di i2)) :: ((.d .bool (db (ltI i5 i2))) :: (us 2 ((.d .str (dS s1)) :: ((.d (.int .i64) (di i5)) :: ((.d (.int .u8) (D.int .u8 (byteAt s1 i5.toNat))) :: ((.d (.int .i64) (di (cv .i64 (byteAt s1 i5.toNat)))) :: ((.d (.int .i64) (di (cv .i64 (byteAt s1 i5.toNat)))) :: ((.d .bool (db (ltI (cv .i64 (byteAt s1 i5.toNat)) 128))) :: ((.d .bool (db true)) :: ((.tup []) :: ((.tup []) :: ((.d .bool (db true)) :: (us 22 [])))))))))))))))))))))))))) []
  | .e1 s1 i2 i3 i4 i5 => k .ret ((.d .str (dS s1)) :: (us 1 ((.d (.int .i64) (di (-1))) :: ((.d (.int .i64) (di 1)) :: (us 1 ((.d (.int .i64) (di i2)) :: ((.d (.int .i64) (di i3)) :: ((.d (.int .i64) (di i4)) :: ((.d (.int .i64) (di i5)) :: ((.d (.int .i64) (di (cv .i64 (byteAt s1 i5.toNat)))) :: (us 38 ((.d (.int .i64) (di i5)) :: ((.d (.int .i64) (di i2)) :: ((.d .bool (db (ltI i5 i2))) :: (us 2 ((.d .str (dS s1)) :: ((.d (.int .i64) (di i5)) :: ((.d (.int .u8) (D.int .u8 (byteAt s1 i5.toNat))) :: ((.d (.int .i64) (di (cv .i64 (byteAt s1 i5.toNat)))) :: ((.d (.int .i64) (di (cv .i64 (byteAt s1 i5.toNat)))) :: ((.d .bool (db (ltI (cv .i64 (byteAt s1 i5.toNat)) 128))) :: ((.d .bool (db false)) :: ((.d (.int .i64) (di (cv .i64 (byteAt s1 i5.toNat)))) :: ((.d .bool (db (gtI (cv .i64 (byteAt s1 i5.toNat)) 191))) :: ((.d .bool (db (gtI (cv .i64 (byteAt s1 i5.toNat)) 191))) :: (us 22 [])))))))))))))))))))))))))) []
  | .e2 s1 i2 i3 i4 i5 => k (.exit 0) ((.d .str (dS s1)) :: (us 4 ((.d (.int .i64) (di i2)) :: ((.d (.int .i64) (di i3)) :: ((.d (.int .i64) (di i4)) :: ((.d (.int .i64) (di i5)) :: (us 39 ((.d (.int .i64) (di i5)) :: ((.d (.int .i64) (di i2)) :: ((.d .bool (db (ltI i5 i2))) :: (us 34 []))))))))))) []
def ps22 : List PV := ((.d .str .str) :: (up 4 ((.d (.int .i64) (.int .i64)) :: ((.d (.int .i64) (.int .i64)) :: ((.d (.int .i64) (.int .i64)) :: ((.d (.int .i64) (.int .i64)) :: (up 76 [])))))))
def qs22 : List PO := []
noncomputable def sum22 (M : Nat) : Sum := sumS [0, 5, 6, 7, 8] ps22 qs22 [] of22 (st22 M) ex22 M
theorem sok22 (M : Nat) : SumOk (loopRd (e M) 74 22) (e M) (call (e M) 11) 74 0 (loopAt (e M) 74 22) (sum22 M) :=
  sumOk_st (T := tblOf (t74_0 M)) (n0 := 0) (lv := lv22) (t74_0_ok M) (by kernel_rfl) rfl (by intro ls s h; unfold of22 at h; (repeat' split at h) <;> simp at h; subst h; rfl) (by intro s; kernel_rfl) (by intro s; kernel_rfl) (by intro s nx k; kernel_rfl)
noncomputable def t74_1 (M : Nat) : List Ent := ⟨74, 11, 0, 22, sum22 M⟩ :: t74_0 M
theorem t74_1_ok (M : Nat) : AllOk (e M) (tblOf (t74_1 M)) := (t74_0_ok M).add ⟨74, 11, 0, 22, sum22 M⟩ (by kernel_rfl) (sok22 M)
def s (M : Nat) (p0 : ByteArray) : Option D :=
  (cond (inb 0 p0.size) (cond (ltI (cv .i64 (byteAt p0 0)) 128) (some (D.tup [(di (cv .i64 (byteAt p0 0))), (di 1)])) (cond (geI (cv .i64 (byteAt p0 0)) 194) (cond (ltI (cv .i64 (byteAt p0 0)) 224) (cond (ltI (nI p0.size) 2) (some (D.tup [(di (-1)), (di 1)])) (goS (st22 M) M ⟨p0, 2, 128, (sb .i64 (cv .i64 (byteAt p0 0)) 192), 1⟩ fun x => match x with | .e0 s1 i2 i3 i4 i5 => (some (D.tup [(di (-1)), (di 1)])) | .e1 s1 i2 i3 i4 i5 => (some (D.tup [(di (-1)), (di 1)])) | .e2 s1 i2 i3 i4 i5 => (cond (ltI i4 i3) (some (D.tup [(di (-1)), (di 1)])) (cond (gtI i4 1114111) (some (D.tup [(di (-1)), (di 1)])) (cond (geI i4 55296) (cond (leI i4 57343) (some (D.tup [(di (-1)), (di 1)])) (some (D.tup [(di i4), (di i2)]))) (some (D.tup [(di i4), (di i2)]))))))) (cond (geI (cv .i64 (byteAt p0 0)) 224) (cond (ltI (cv .i64 (byteAt p0 0)) 240) (cond (ltI (nI p0.size) 3) (some (D.tup [(di (-1)), (di 1)])) (goS (st22 M) M ⟨p0, 3, 2048, (sb .i64 (cv .i64 (byteAt p0 0)) 224), 1⟩ fun x => match x with | .e0 s1 i2 i3 i4 i5 => (some (D.tup [(di (-1)), (di 1)])) | .e1 s1 i2 i3 i4 i5 => (some (D.tup [(di (-1)), (di 1)])) | .e2 s1 i2 i3 i4 i5 => (cond (ltI i4 i3) (some (D.tup [(di (-1)), (di 1)])) (cond (gtI i4 1114111) (some (D.tup [(di (-1)), (di 1)])) (cond (geI i4 55296) (cond (leI i4 57343) (some (D.tup [(di (-1)), (di 1)])) (some (D.tup [(di i4), (di i2)]))) (some (D.tup [(di i4), (di i2)]))))))) (cond (geI (cv .i64 (byteAt p0 0)) 240) (cond (ltI (cv .i64 (byteAt p0 0)) 245) (cond (ltI (nI p0.size) 4) (some (D.tup [(di (-1)), (di 1)])) (goS (st22 M) M ⟨p0, 4, 65536, (sb .i64 (cv .i64 (byteAt p0 0)) 240), 1⟩ fun x => match x with | .e0 s1 i2 i3 i4 i5 => (some (D.tup [(di (-1)), (di 1)])) | .e1 s1 i2 i3 i4 i5 => (some (D.tup [(di (-1)), (di 1)])) | .e2 s1 i2 i3 i4 i5 => (cond (ltI i4 i3) (some (D.tup [(di (-1)), (di 1)])) (cond (gtI i4 1114111) (some (D.tup [(di (-1)), (di 1)])) (cond (geI i4 55296) (cond (leI i4 57343) (some (D.tup [(di (-1)), (di 1)])) (some (D.tup [(di i4), (di i2)]))) (some (D.tup [(di i4), (di i2)]))))))) (some (D.tup [(di (-1)), (di 1)]))) (some (D.tup [(di (-1)), (di 1)])))) (cond (geI (cv .i64 (byteAt p0 0)) 240) (cond (ltI (cv .i64 (byteAt p0 0)) 245) (cond (ltI (nI p0.size) 4) (some (D.tup [(di (-1)), (di 1)])) (goS (st22 M) M ⟨p0, 4, 65536, (sb .i64 (cv .i64 (byteAt p0 0)) 240), 1⟩ fun x => match x with | .e0 s1 i2 i3 i4 i5 => (some (D.tup [(di (-1)), (di 1)])) | .e1 s1 i2 i3 i4 i5 => (some (D.tup [(di (-1)), (di 1)])) | .e2 s1 i2 i3 i4 i5 => (cond (ltI i4 i3) (some (D.tup [(di (-1)), (di 1)])) (cond (gtI i4 1114111) (some (D.tup [(di (-1)), (di 1)])) (cond (geI i4 55296) (cond (leI i4 57343) (some (D.tup [(di (-1)), (di 1)])) (some (D.tup [(di i4), (di i2)]))) (some (D.tup [(di i4), (di i2)]))))))) (some (D.tup [(di (-1)), (di 1)]))) (some (D.tup [(di (-1)), (di 1)]))))) (cond (geI (cv .i64 (byteAt p0 0)) 224) (cond (ltI (cv .i64 (byteAt p0 0)) 240) (cond (ltI (nI p0.size) 3) (some (D.tup [(di (-1)), (di 1)])) (goS (st22 M) M ⟨p0, 3, 2048, (sb .i64 (cv .i64 (byteAt p0 0)) 224), 1⟩ fun x => match x with | .e0 s1 i2 i3 i4 i5 => (some (D.tup [(di (-1)), (di 1)])) | .e1 s1 i2 i3 i4 i5 => (some (D.tup [(di (-1)), (di 1)])) | .e2 s1 i2 i3 i4 i5 => (cond (ltI i4 i3) (some (D.tup [(di (-1)), (di 1)])) (cond (gtI i4 1114111) (some (D.tup [(di (-1)), (di 1)])) (cond (geI i4 55296) (cond (leI i4 57343) (some (D.tup [(di (-1)), (di 1)])) (some (D.tup [(di i4), (di i2)]))) (some (D.tup [(di i4), (di i2)]))))))) (cond (geI (cv .i64 (byteAt p0 0)) 240) (cond (ltI (cv .i64 (byteAt p0 0)) 245) (cond (ltI (nI p0.size) 4) (some (D.tup [(di (-1)), (di 1)])) (goS (st22 M) M ⟨p0, 4, 65536, (sb .i64 (cv .i64 (byteAt p0 0)) 240), 1⟩ fun x => match x with | .e0 s1 i2 i3 i4 i5 => (some (D.tup [(di (-1)), (di 1)])) | .e1 s1 i2 i3 i4 i5 => (some (D.tup [(di (-1)), (di 1)])) | .e2 s1 i2 i3 i4 i5 => (cond (ltI i4 i3) (some (D.tup [(di (-1)), (di 1)])) (cond (gtI i4 1114111) (some (D.tup [(di (-1)), (di 1)])) (cond (geI i4 55296) (cond (leI i4 57343) (some (D.tup [(di (-1)), (di 1)])) (some (D.tup [(di i4), (di i2)]))) (some (D.tup [(di i4), (di i2)]))))))) (some (D.tup [(di (-1)), (di 1)]))) (some (D.tup [(di (-1)), (di 1)])))) (cond (geI (cv .i64 (byteAt p0 0)) 240) (cond (ltI (cv .i64 (byteAt p0 0)) 245) (cond (ltI (nI p0.size) 4) (some (D.tup [(di (-1)), (di 1)])) (goS (st22 M) M ⟨p0, 4, 65536, (sb .i64 (cv .i64 (byteAt p0 0)) 240), 1⟩ fun x => match x with | .e0 s1 i2 i3 i4 i5 => (some (D.tup [(di (-1)), (di 1)])) | .e1 s1 i2 i3 i4 i5 => (some (D.tup [(di (-1)), (di 1)])) | .e2 s1 i2 i3 i4 i5 => (cond (ltI i4 i3) (some (D.tup [(di (-1)), (di 1)])) (cond (gtI i4 1114111) (some (D.tup [(di (-1)), (di 1)])) (cond (geI i4 55296) (cond (leI i4 57343) (some (D.tup [(di (-1)), (di 1)])) (some (D.tup [(di i4), (di i2)]))) (some (D.tup [(di i4), (di i2)]))))))) (some (D.tup [(di (-1)), (di 1)]))) (some (D.tup [(di (-1)), (di 1)])))))) none)
theorem run (M : Nat) (p0 : ByteArray) : callS (e M) (tblOf (t74_1 M)) 12 (.fn 74) [.d .str (dS p0)] [] (fun v H => finish ty [3, 3] v H) = s M p0 := by kernel_rfl
noncomputable abbrev t (M : Nat) : List Ent := t74_1 M
theorem t_ok (M : Nat) : AllOk (e M) (tblOf (t M)) := t74_1_ok M
def c : Con := { run := fun ds => match ds with | [p0] => s FUEL p0.s | _ => none, fresh := false, plain := true }
theorem fun_at : Tryd.prog.funcs[74]? = some Tryd.f74 := by kernel_rfl
theorem params : Tryd.f74.params.toList.map ty = [.str] := by kernel_rfl
theorem results : Tryd.f74.resultTypes.toList = [3, 3] := by kernel_rfl
theorem flat : Tryd.f74.resultTypes.toList.all (fun t => K.flat ty 20 (ty t)) = true := by kernel_rfl
theorem ok : ConOk (74, c) := by
  intro fn hfn
  obtain rfl : Tryd.f74 = fn := Option.some.inj (fun_at.symm.trans hfn)
  refine contract_flat (n := 20) hgl (fun _ => flat) (fun ds r hh0 hr => ?_)
  rw [params] at hh0
  obtain ⟨p0, ds0, rfl, h0, hh1⟩ := hass_cons hh0
  obtain ⟨p0, rfl⟩ := has_str h0
  obtain rfl := hass_nil hh1
  refine ⟨e FUEL, DEPTH, tblOf (t FUEL), envOk allNil allNil, rfl, t_ok FUEL, ?_⟩
  rw [params, results]
  exact (run FUEL p0).trans hr
end F74
namespace F41
def cons : List (Nat × Con) := [(74, F74.c)]
def exts : List (Nat × Ext) := []
def h : List (Nat × Nat × Hint) := [(41, 3, { live := [0, 3, 4], rows := [(3, 3)], own := false, inpl := false })]
noncomputable def e (M : Nat) : Env := env cons exts h M
noncomputable def t41_0 (_ : Nat) : List Ent := []
theorem t41_0_ok (M : Nat) : AllOk (e M) (tblOf (t41_0 M)) := AllOk.nil
structure S3 where
  s1 : ByteArray
  n2 : Nat
  n3 : Nat
  i4 : Int
  b5 : Bool
  l6 : (List D)
inductive X3 where
  | e0 (s1 : ByteArray) (n2 : Nat) (n3 : Nat) (i4 : Int) (b5 : Bool) (l6 : (List D))
def st3 (M : Nat) : S3 → (S3 → Option D) → (X3 → Option D) → Option D
  | ⟨s1, n2, n3, i4, b5, l6⟩, rec, K => (cond (ltI i4 (nI s1.size)) (cond ((leI 0 i4) && (leI i4 (nI s1.size)) && (leI (nI s1.size) (nI s1.size)) && (leI (nI s1.size) (nI s1.size))) (bd (F74.s FUEL (s1.extract i4.toNat s1.size)) fun r7 => (cond (ltI (r7.at 0).i 0) (cond (inb i4 s1.size) (cond (mx (n3 + 1)) (rec ⟨s1, 0, (n3 + 1), (ad .i64 i4 (r7.at 1).i), (b5 || true), (ap ((l6.drop n2).take n3) [(di (ad .i64 1114112 (cv .i64 (byteAt s1 i4.toNat))))])⟩) none) none) (cond (mx (n3 + 1)) (rec ⟨s1, 0, (n3 + 1), (ad .i64 i4 (r7.at 1).i), (b5 || true), (ap ((l6.drop n2).take n3) [(r7.at 0)])⟩) none))) none) (K (.e0 s1 n2 n3 i4 b5 l6)))
def lv3 : S3 → List Leaf
  | ⟨s1, n2, n3, i4, b5, l6⟩ => [.s s1, .n n2, .n n3, .i i4, .b b5, .l l6]
def of3 : List Leaf → Option S3
  | [.s s1, .n n2, .n n3, .i i4, .b b5, .l l6] => some ⟨s1, n2, n3, i4, b5, l6⟩
  | _ => none
def ex3 (k : Kont) : X3 → Option D
  | .e0 s1 n2 n3 i4 b5 l6 => k (.exit 0) ((.d .str (dS s1)) :: (us 2 ((.sref 0 n2 n3) :: ((.d (.int .i64) (di i4)) :: (us 2 ((.d (.int .i64) (di i4)) :: ((.d .str (dS s1)) :: ((.d (.int .i64) (di (nI s1.size))) :: ((.d .bool (db (ltI i4 (nI s1.size)))) :: (us 22 [])))))))))) [(.row 3 true b5 l6)]
def ps3 : List PV := ((.d .str .str) :: (up 2 ((.sref 0) :: ((.d (.int .i64) (.int .i64)) :: (up 28 [])))))
def qs3 : List PO := [(.row 3 true)]
noncomputable def sum3 (M : Nat) : Sum := sumS [0, 3, 4] ps3 qs3 [(3, 0)] of3 (st3 M) ex3 M
theorem sok3 (M : Nat) : SumOk (loopRd (e M) 41 3) (e M) (call (e M) 11) 41 0 (loopAt (e M) 41 3) (sum3 M) :=
  sumOk_st (T := tblOf (t41_0 M)) (n0 := 1) (lv := lv3) (t41_0_ok M) (by kernel_rfl) rfl (by intro ls s h; unfold of3 at h; (repeat' split at h) <;> simp at h; subst h; rfl) (by intro s; kernel_rfl) (by intro s; kernel_rfl) (by intro s nx k; kernel_rfl)
noncomputable def t41_1 (M : Nat) : List Ent := ⟨41, 11, 0, 3, sum3 M⟩ :: t41_0 M
theorem t41_1_ok (M : Nat) : AllOk (e M) (tblOf (t41_1 M)) := (t41_0_ok M).add ⟨41, 11, 0, 3, sum3 M⟩ (by kernel_rfl) (sok3 M)
def s (M : Nat) (p0 : ByteArray) : Option D :=
  (goS (st3 M) M ⟨p0, 0, 0, 0, false, []⟩ fun x => match x with | .e0 s1 n2 n3 i4 b5 l6 => (cond ((decide (n3 = l6.length)) && (decide (n2 = 0))) (some (.slice b5 l6)) none))
theorem run (M : Nat) (p0 : ByteArray) : callS (e M) (tblOf (t41_1 M)) 12 (.fn 41) [.d .str (dS p0)] [] (fun v H => finishFresh ty [64] v H) = s M p0 := by kernel_rfl
noncomputable abbrev t (M : Nat) : List Ent := t41_1 M
theorem t_ok (M : Nat) : AllOk (e M) (tblOf (t M)) := t41_1_ok M
def c : Con := { run := fun ds => match ds with | [p0] => s FUEL p0.s | _ => none, fresh := true, plain := false }
theorem fun_at : Tryd.prog.funcs[41]? = some Tryd.f41 := by kernel_rfl
theorem params : Tryd.f41.params.toList.map ty = [.str] := by kernel_rfl
theorem results : Tryd.f41.resultTypes.toList = [64] := by kernel_rfl
theorem ok : ConOk (41, c) := by
  intro fn hfn
  obtain rfl : Tryd.f41 = fn := Option.some.inj (fun_at.symm.trans hfn)
  refine contract_of_fresh hgl rfl rfl (fun ds r hh0 hr => ?_)
  rw [params] at hh0
  obtain ⟨p0, ds0, rfl, h0, hh1⟩ := hass_cons hh0
  obtain ⟨p0, rfl⟩ := has_str h0
  obtain rfl := hass_nil hh1
  refine ⟨e FUEL, DEPTH, tblOf (t FUEL), envOk (allCons F74.ok allNil) allNil, rfl, t_ok FUEL, ?_⟩
  rw [params, results]
  exact (run FUEL p0).trans hr
end F41
namespace F23
def cons : List (Nat × Con) := [(41, F41.c)]
def exts : List (Nat × Ext) := []
def h : List (Nat × Nat × Hint) := [(23, 4, { live := [5, 6, 7], rows := [], own := false, inpl := false })]
noncomputable def e (M : Nat) : Env := env cons exts h M
noncomputable def t23_0 (_ : Nat) : List Ent := []
theorem t23_0_ok (M : Nat) : AllOk (e M) (tblOf (t23_0 M)) := AllOk.nil
structure S4 where
  n3 : Nat
  n4 : Nat
  n5 : Nat
  n6 : Nat
  i7 : Int
  b8 : Bool
  l9 : (List D)
  b10 : Bool
  l11 : (List D)
inductive X4 where
  | e0 (n3 : Nat) (n4 : Nat) (n5 : Nat) (n6 : Nat) (i7 : Int) (b8 : Bool) (l9 : (List D)) (b10 : Bool) (l11 : (List D))
  | e1 (n3 : Nat) (n4 : Nat) (n5 : Nat) (n6 : Nat) (i7 : Int) (b8 : Bool) (l9 : (List D)) (b10 : Bool) (l11 : (List D))
  | e2 (n3 : Nat) (n4 : Nat) (n5 : Nat) (n6 : Nat) (i7 : Int) (b8 : Bool) (l9 : (List D)) (b10 : Bool) (l11 : (List D))
def st4 (M : Nat) : S4 → (S4 → Option D) → (X4 → Option D) → Option D
  | ⟨n3, n4, n5, n6, i7, b8, l9, b10, l11⟩, rec, K => (cond (ltI i7 (nI n4)) (cond (ltI i7 (nI n6)) (cond (inb i7 n4) (cond (inb i7 n6) (cond (neI (ix l9 (n3 + i7.toNat)).i (ix l11 (n5 + i7.toNat)).i) (cond (inb i7 n4) (cond (inb i7 n6) (K (.e0 n3 n4 n5 n6 i7 b8 l9 b10 l11)) none) none) (rec ⟨n3, n4, n5, n6, (ad .i64 i7 1), b8, l9, b10, l11⟩)) none) none) (K (.e1 n3 n4 n5 n6 i7 b8 l9 b10 l11))) (K (.e2 n3 n4 n5 n6 i7 b8 l9 b10 l11)))
def lv4 : S4 → List Leaf
  | ⟨n3, n4, n5, n6, i7, b8, l9, b10, l11⟩ => [.n n3, .n n4, .n n5, .n n6, .i i7, .b b8, .l l9, .b b10, .l l11]
def of4 : List Leaf → Option S4
  | [.n n3, .n n4, .n n5, .n n6, .i i7, .b b8, .l l9, .b b10, .l l11] => some ⟨n3, n4, n5, n6, i7, b8, l9, b10, l11⟩
  | _ => none
def ex4 (k : Kont) : X4 → Option D
  | .e0 n3 n4 n5 n6 i7 b8 l9 b10 l11 => k .ret (us 4 ((.d .bool (db (ltI (ix l9 (n3 + i7.toNat)).i (ix l11 (n5 + i7.toNat)).i))) :: ((.sref 0 n3 n4) :: ((.sref 1 n5 n6) :: ((.d (.int .i64) (di i7)) :: (us 4 ((.d (.int .i64) (di i7)) :: ((.sref 0 n3 n4) :: ((.d (.int .i64) (di (nI n4))) :: ((.d .bool (db (ltI i7 (nI n4)))) :: ((.d .bool (db true)) :: ((.d (.int .i64) (di i7)) :: ((.sref 1 n5 n6) :: ((.d (.int .i64) (di (nI n6))) :: ((.d .bool (db (ltI i7 (nI n6)))) :: ((.d .bool (db (ltI i7 (nI n6)))) :: (us 2 ((.sref 0 n3 n4) :: ((.d (.int .i64) (di i7)) :: ((.ptr 0 [(n3 + i7.toNat)] (.int .i64)) :: ((.d (.int .i64) (ix l9 (n3 + i7.toNat))) :: ((.sref 1 n5 n6) :: ((.d (.int .i64) (di i7)) :: ((.ptr 1 [(n5 + i7.toNat)] (.int .i64)) :: ((.d (.int .i64) (ix l11 (n5 + i7.toNat))) :: ((.d .bool (db (neI (ix l9 (n3 + i7.toNat)).i (ix l11 (n5 + i7.toNat)).i))) :: ((.sref 0 n3 n4) :: ((.d (.int .i64) (di i7)) :: ((.ptr 0 [(n3 + i7.toNat)] (.int .i64)) :: ((.d (.int .i64) (ix l9 (n3 + i7.toNat))) :: ((.sref 1 n5 n6) :: ((.d (.int .i64) (di i7)) :: ((.ptr 1 [(n5 + i7.toNat)] (.int .i64)) :: ((.d (.int .i64) (ix l11 (n5 + i7.toNat))) :: ((.d .bool (db (ltI (ix l9 (n3 + i7.toNat)).i (ix l11 (n5 + i7.toNat)).i))) :: (us 5 [])))))))))))))))))))))))))))))))))))) [(.row 3 true b8 l9), (.row 3 true b10 l11)]
  | .e1 n3 n4 n5 n6 i7 b8 l9 b10 l11 => k (.exit 0) (us 5 ((.sref 0 n3 n4) :: ((.sref 1 n5 n6) :: ((.d (.int .i64) (di i7)) :: (us 4 ((.d (.int .i64) (di i7)) :: ((.sref 0 n3 n4) :: ((.d (.int .i64) (di (nI n4))) :: ((.d .bool (db (ltI i7 (nI n4)))) :: ((.d .bool (db true)) :: ((.d (.int .i64) (di i7)) :: ((.sref 1 n5 n6) :: ((.d (.int .i64) (di (nI n6))) :: ((.d .bool (db (ltI i7 (nI n6)))) :: ((.d .bool (db (ltI i7 (nI n6)))) :: (us 25 [])))))))))))))))) [(.row 3 true b8 l9), (.row 3 true b10 l11)]
  | .e2 n3 n4 n5 n6 i7 b8 l9 b10 l11 => k (.exit 0) (us 5 ((.sref 0 n3 n4) :: ((.sref 1 n5 n6) :: ((.d (.int .i64) (di i7)) :: (us 4 ((.d (.int .i64) (di i7)) :: ((.sref 0 n3 n4) :: ((.d (.int .i64) (di (nI n4))) :: ((.d .bool (db (ltI i7 (nI n4)))) :: ((.d .bool (db false)) :: ((.tup []) :: ((.tup []) :: ((.tup []) :: ((.tup []) :: ((.d .bool (db false)) :: (us 25 [])))))))))))))))) [(.row 3 true b8 l9), (.row 3 true b10 l11)]
def ps4 : List PV := (up 5 ((.sref 0) :: ((.sref 1) :: ((.d (.int .i64) (.int .i64)) :: (up 39 [])))))
def qs4 : List PO := [(.row 3 true), (.row 3 true)]
noncomputable def sum4 (M : Nat) : Sum := sumS [5, 6, 7] ps4 qs4 [] of4 (st4 M) ex4 M
theorem sok4 (M : Nat) : SumOk (loopRd (e M) 23 4) (e M) (call (e M) 11) 23 0 (loopAt (e M) 23 4) (sum4 M) :=
  sumOk_st (T := tblOf (t23_0 M)) (n0 := 2) (lv := lv4) (t23_0_ok M) (by kernel_rfl) rfl (by intro ls s h; unfold of4 at h; (repeat' split at h) <;> simp at h; subst h; rfl) (by intro s; kernel_rfl) (by intro s; kernel_rfl) (by intro s nx k; kernel_rfl)
noncomputable def t23_1 (M : Nat) : List Ent := ⟨23, 11, 0, 4, sum4 M⟩ :: t23_0 M
theorem t23_1_ok (M : Nat) : AllOk (e M) (tblOf (t23_1 M)) := (t23_0_ok M).add ⟨23, 11, 0, 4, sum4 M⟩ (by kernel_rfl) (sok4 M)
def s (M : Nat) (p0 : ByteArray) (p1 : ByteArray) : Option D :=
  (bd (F41.s FUEL p0) fun r1 => (bd (F41.s FUEL p1) fun r2 => (goS (st4 M) M ⟨0, r1.elems.length, 0, r2.elems.length, 0, r1.nn, r1.elems, r2.nn, r2.elems⟩ fun x => match x with | .e0 n3 n4 n5 n6 i7 b8 l9 b10 l11 => (some (db (ltI (ix l9 (n3 + i7.toNat)).i (ix l11 (n5 + i7.toNat)).i))) | .e1 n3 n4 n5 n6 i7 b8 l9 b10 l11 => (some (db (ltI (nI n4) (nI n6)))) | .e2 n3 n4 n5 n6 i7 b8 l9 b10 l11 => (some (db (ltI (nI n4) (nI n6)))))))
theorem run (M : Nat) (p0 : ByteArray) (p1 : ByteArray) : callS (e M) (tblOf (t23_1 M)) 12 (.fn 23) [.d .str (dS p0), .d .str (dS p1)] [] (fun v H => finish ty [4] v H) = s M p0 p1 := by kernel_rfl
noncomputable abbrev t (M : Nat) : List Ent := t23_1 M
theorem t_ok (M : Nat) : AllOk (e M) (tblOf (t M)) := t23_1_ok M
def c : Con := { run := fun ds => match ds with | [p0, p1] => s FUEL p0.s p1.s | _ => none, fresh := false, plain := true }
theorem fun_at : Tryd.prog.funcs[23]? = some Tryd.f23 := by kernel_rfl
theorem params : Tryd.f23.params.toList.map ty = [.str, .str] := by kernel_rfl
theorem results : Tryd.f23.resultTypes.toList = [4] := by kernel_rfl
theorem flat : Tryd.f23.resultTypes.toList.all (fun t => K.flat ty 20 (ty t)) = true := by kernel_rfl
theorem ok : ConOk (23, c) := by
  intro fn hfn
  obtain rfl : Tryd.f23 = fn := Option.some.inj (fun_at.symm.trans hfn)
  refine contract_flat (n := 20) hgl (fun _ => flat) (fun ds r hh0 hr => ?_)
  rw [params] at hh0
  obtain ⟨p0, ds0, rfl, h0, hh1⟩ := hass_cons hh0
  obtain ⟨p0, rfl⟩ := has_str h0
  obtain ⟨p1, ds1, rfl, h1, hh2⟩ := hass_cons hh1
  obtain ⟨p1, rfl⟩ := has_str h1
  obtain rfl := hass_nil hh2
  refine ⟨e FUEL, DEPTH, tblOf (t FUEL), envOk (allCons F41.ok allNil) allNil, rfl, t_ok FUEL, ?_⟩
  rw [params, results]
  exact (run FUEL p0 p1).trans hr
end F23
namespace F7
def cons : List (Nat × Con) := [(17, F17.c), (18, F18.c), (19, F19.c), (20, F20.c), (23, F23.c)]
def exts : List (Nat × Ext) := []
def h : List (Nat × Nat × Hint) := [(7, 12, { live := [3, 5, 9, 11], rows := [], own := false, inpl := false })]
noncomputable def e (M : Nat) : Env := env cons exts h M
noncomputable def t7_0 (_ : Nat) : List Ent := []
theorem t7_0_ok (M : Nat) : AllOk (e M) (tblOf (t7_0 M)) := AllOk.nil
structure S12 where
  d5 : D
  i6 : Int
  d7 : D
  d8 : D
  d9 : D
inductive X12 where
  | e0 (d5 : D) (i6 : Int) (d7 : D) (d8 : D) (d9 : D) (r10 : D)
  | e1 (d5 : D) (i6 : Int) (d7 : D) (d8 : D) (d9 : D) (r10 : D) (r11 : D)
  | e2 (d5 : D) (i6 : Int) (d7 : D) (d8 : D) (d9 : D) (r10 : D) (r11 : D)
  | e3 (d5 : D) (i6 : Int) (d7 : D) (d8 : D) (d9 : D) (r10 : D) (r11 : D)
  | e4 (d5 : D) (i6 : Int) (d7 : D) (d8 : D) (d9 : D) (r12 : D)
  | e5 (d5 : D) (i6 : Int) (d7 : D) (d8 : D) (d9 : D) (r12 : D)
  | e6 (d5 : D) (i6 : Int) (d7 : D) (d8 : D) (d9 : D) (r12 : D)
  | e (d5 : D) (i6 : Int) (d7 : D) (d8 : D) (d9 : D)
def st12 (M : Nat) : S12 → (S12 → Option D) → (X12 → Option D) → Option D
  | ⟨d5, i6, d7, d8, d9⟩, rec, K => (cond (ltI i6 (nI (d9.at 4).elems.length)) (cond (gtI i6 0) (cond (inb (sb .i64 i6 1) (d9.at 4).elems.length) (cond (inb i6 (d9.at 4).elems.length) (bd (F23.s FUEL (ix (d9.at 4).elems (sb .i64 i6 1).toNat).s (ix (d9.at 4).elems i6.toNat).s) fun r10 => (cond (!r10.b) (K (.e0 d5 i6 d7 d8 d9 r10)) (cond (inb i6 (d9.at 4).elems.length) (bd (F20.s FUEL d7 (da [(di 10), (ix (d9.at 4).elems i6.toNat), (dS (bs [])), (di 0), (di 0), (di 0)])) fun r11 => (cond (neI ((r11.at 1).at 0).i 0) (K (.e1 d5 i6 d7 d8 d9 r10 r11)) (cond (inb i6 (d9.at 4).elems.length) (cond (!(eqS (((r11.at 1).at 3).at 1).s (ix (d9.at 4).elems i6.toNat).s)) (K (.e2 d5 i6 d7 d8 d9 r10 r11)) (cond (!(eqS (((r11.at 1).at 3).at 2).s (bs []))) (K (.e3 d5 i6 d7 d8 d9 r10 r11)) (rec ⟨d5, (ad .i64 i6 1), d7, d8, d9⟩))) none))) none))) none) none) (cond (inb i6 (d9.at 4).elems.length) (bd (F20.s FUEL d7 (da [(di 10), (ix (d9.at 4).elems i6.toNat), (dS (bs [])), (di 0), (di 0), (di 0)])) fun r12 => (cond (neI ((r12.at 1).at 0).i 0) (K (.e4 d5 i6 d7 d8 d9 r12)) (cond (inb i6 (d9.at 4).elems.length) (cond (!(eqS (((r12.at 1).at 3).at 1).s (ix (d9.at 4).elems i6.toNat).s)) (K (.e5 d5 i6 d7 d8 d9 r12)) (cond (!(eqS (((r12.at 1).at 3).at 2).s (bs []))) (K (.e6 d5 i6 d7 d8 d9 r12)) (rec ⟨d5, (ad .i64 i6 1), d7, d8, d9⟩))) none))) none)) (K (.e d5 i6 d7 d8 d9)))
def lv12 : S12 → List Leaf
  | ⟨d5, i6, d7, d8, d9⟩ => [.d d5, .i i6, .d d7, .d d8, .d d9]
def of12 : List Leaf → Option S12
  | [.d d5, .i i6, .d d7, .d d8, .d d9] => some ⟨d5, i6, d7, d8, d9⟩
  | _ => none
def ex12 (k : Kont) : X12 → Option D
  | .e0 d5 i6 d7 d8 d9 r10 => k .ret (us 2 ((.d .bool (db false)) :: ((.d .bool d5) :: (us 1 ((.ptr 0 [] (.struct [49, 3, 3])) :: (us 3 ((.ptr 2 [] (.struct [28, 3, 9, 42, 40])) :: (us 1 ((.d (.int .i64) (di i6)) :: ((.d .bool r10) :: (us 32 ((.d (.int .i64) (di i6)) :: ((.ptr 2 [4] (.slice 9)) :: ((.d (.slice 9) (d9.at 4)) :: ((.d (.int .i64) (di (nI (d9.at 4).elems.length))) :: ((.d .bool (db (ltI i6 (nI (d9.at 4).elems.length)))) :: (us 2 ((.d (.int .i64) (di i6)) :: ((.d .bool (db (gtI i6 0))) :: ((.ptr 2 [4] (.slice 9)) :: ((.d (.slice 9) (d9.at 4)) :: ((.d (.int .i64) (di i6)) :: ((.d (.int .i64) (di (sb .i64 i6 1))) :: ((.cptr .str (ix (d9.at 4).elems (sb .i64 i6 1).toNat)) :: ((.d .str (ix (d9.at 4).elems (sb .i64 i6 1).toNat)) :: ((.ptr 2 [4] (.slice 9)) :: ((.d (.slice 9) (d9.at 4)) :: ((.d (.int .i64) (di i6)) :: ((.cptr .str (ix (d9.at 4).elems i6.toNat)) :: ((.d .str (ix (d9.at 4).elems i6.toNat)) :: ((.d .bool r10) :: ((.d .bool r10) :: ((.d .bool (db (!r10.b))) :: (us 33 [])))))))))))))))))))))))))))))))))) [(.var (.struct [49, 3, 3]) (.d (.struct [49, 3, 3]) d7)), (.var (.struct [49, 3, 3]) (.d (.struct [49, 3, 3]) d8)), (.var (.struct [28, 3, 9, 42, 40]) (.d (.struct [28, 3, 9, 42, 40]) d9))]
  | .e1 d5 i6 d7 d8 d9 r10 r11 => k .ret (us 2 ((.d .bool (db false)) :: ((.d .bool d5) :: (us 1 ((.ptr 0 [] (.struct [49, 3, 3])) :: (us 3 ((.ptr 2 [] (.struct [28, 3, 9, 42, 40])) :: (us 1 ((.d (.int .i64) (di i6)) :: ((.d .bool r10) :: ((.ptr 3 [] (.struct [49, 3, 3])) :: ((.ptr 4 [] (.struct [28, 3, 9, 42, 40])) :: ((.d (.slice 38) (r11.at 2)) :: (us 29 ((.d (.int .i64) (di i6)) :: ((.ptr 2 [4] (.slice 9)) :: ((.d (.slice 9) (d9.at 4)) :: ((.d (.int .i64) (di (nI (d9.at 4).elems.length))) :: ((.d .bool (db (ltI i6 (nI (d9.at 4).elems.length)))) :: (us 2 ((.d (.int .i64) (di i6)) :: ((.d .bool (db (gtI i6 0))) :: ((.ptr 2 [4] (.slice 9)) :: ((.d (.slice 9) (d9.at 4)) :: ((.d (.int .i64) (di i6)) :: ((.d (.int .i64) (di (sb .i64 i6 1))) :: ((.cptr .str (ix (d9.at 4).elems (sb .i64 i6 1).toNat)) :: ((.d .str (ix (d9.at 4).elems (sb .i64 i6 1).toNat)) :: ((.ptr 2 [4] (.slice 9)) :: ((.d (.slice 9) (d9.at 4)) :: ((.d (.int .i64) (di i6)) :: ((.cptr .str (ix (d9.at 4).elems i6.toNat)) :: ((.d .str (ix (d9.at 4).elems i6.toNat)) :: ((.d .bool r10) :: ((.d .bool r10) :: ((.d .bool (db (!r10.b))) :: ((.dtup [(.struct [49, 3, 3]), (.struct [28, 3, 9, 42, 40]), (.slice 38)] r11) :: ((.d (.struct [49, 3, 3]) d7) :: ((.ptr 2 [4] (.slice 9)) :: ((.d (.slice 9) (d9.at 4)) :: ((.d (.int .i64) (di i6)) :: ((.cptr .str (ix (d9.at 4).elems i6.toNat)) :: ((.d .str (ix (d9.at 4).elems i6.toNat)) :: ((.d (.struct [34, 9, 9, 3, 3, 3]) (da [(di 10), (ix (d9.at 4).elems i6.toNat), (dS (bs [])), (di 0), (di 0), (di 0)])) :: ((.dtup [(.struct [49, 3, 3]), (.struct [28, 3, 9, 42, 40]), (.slice 38)] r11) :: ((.d (.struct [49, 3, 3]) (r11.at 0)) :: ((.d (.struct [28, 3, 9, 42, 40]) (r11.at 1)) :: ((.d (.slice 38) (r11.at 2)) :: ((.ptr 4 [0] (.int .i64)) :: ((.d (.int .i64) ((r11.at 1).at 0)) :: ((.d .bool (db (neI ((r11.at 1).at 0).i 0))) :: ((.d .bool (db true)) :: ((.tup []) :: ((.tup []) :: ((.tup []) :: ((.tup []) :: ((.tup []) :: ((.tup []) :: ((.tup []) :: ((.tup []) :: ((.tup []) :: ((.d .bool (db true)) :: ((.d .bool (db true)) :: ((.tup []) :: ((.tup []) :: ((.tup []) :: ((.tup []) :: ((.d .bool (db true)) :: (us 1 []))))))))))))))))))))))))))))))))))))))))))))))))))))))))))))))))))))) [(.var (.struct [49, 3, 3]) (.d (.struct [49, 3, 3]) d7)), (.var (.struct [49, 3, 3]) (.d (.struct [49, 3, 3]) d8)), (.var (.struct [28, 3, 9, 42, 40]) (.d (.struct [28, 3, 9, 42, 40]) d9)), (.var (.struct [49, 3, 3]) (.d (.struct [49, 3, 3]) (r11.at 0))), (.var (.struct [28, 3, 9, 42, 40]) (.d (.struct [28, 3, 9, 42, 40]) (r11.at 1)))]
  | .e2 d5 i6 d7 d8 d9 r10 r11 => k .ret (us 2 ((.d .bool (db false)) :: ((.d .bool d5) :: (us 1 ((.ptr 0 [] (.struct [49, 3, 3])) :: (us 3 ((.ptr 2 [] (.struct [28, 3, 9, 42, 40])) :: (us 1 ((.d (.int .i64) (di i6)) :: ((.d .bool r10) :: ((.ptr 3 [] (.struct [49, 3, 3])) :: ((.ptr 4 [] (.struct [28, 3, 9, 42, 40])) :: ((.d (.slice 38) (r11.at 2)) :: (us 29 ((.d (.int .i64) (di i6)) :: ((.ptr 2 [4] (.slice 9)) :: ((.d (.slice 9) (d9.at 4)) :: ((.d (.int .i64) (di (nI (d9.at 4).elems.length))) :: ((.d .bool (db (ltI i6 (nI (d9.at 4).elems.length)))) :: (us 2 ((.d (.int .i64) (di i6)) :: ((.d .bool (db (gtI i6 0))) :: ((.ptr 2 [4] (.slice 9)) :: ((.d (.slice 9) (d9.at 4)) :: ((.d (.int .i64) (di i6)) :: ((.d (.int .i64) (di (sb .i64 i6 1))) :: ((.cptr .str (ix (d9.at 4).elems (sb .i64 i6 1).toNat)) :: ((.d .str (ix (d9.at 4).elems (sb .i64 i6 1).toNat)) :: ((.ptr 2 [4] (.slice 9)) :: ((.d (.slice 9) (d9.at 4)) :: ((.d (.int .i64) (di i6)) :: ((.cptr .str (ix (d9.at 4).elems i6.toNat)) :: ((.d .str (ix (d9.at 4).elems i6.toNat)) :: ((.d .bool r10) :: ((.d .bool r10) :: ((.d .bool (db (!r10.b))) :: ((.dtup [(.struct [49, 3, 3]), (.struct [28, 3, 9, 42, 40]), (.slice 38)] r11) :: ((.d (.struct [49, 3, 3]) d7) :: ((.ptr 2 [4] (.slice 9)) :: ((.d (.slice 9) (d9.at 4)) :: ((.d (.int .i64) (di i6)) :: ((.cptr .str (ix (d9.at 4).elems i6.toNat)) :: ((.d .str (ix (d9.at 4).elems i6.toNat)) :: ((.d (.struct [34, 9, 9, 3, 3, 3]) (da [(di 10), (ix (d9.at 4).elems i6.toNat), (dS (bs [])), (di 0), (di 0), (di 0)])) :: ((.dtup [(.struct [49, 3, 3]), (.struct [28, 3, 9, 42, 40]), (.slice 38)] r11) :: ((.d (.struct [49, 3, 3]) (r11.at 0)) :: ((.d (.struct [28, 3, 9, 42, 40]) (r11.at 1)) :: ((.d (.slice 38) (r11.at 2)) :: ((.ptr 4 [0] (.int .i64)) :: ((.d (.int .i64) ((r11.at 1).at 0)) :: ((.d .bool (db (neI ((r11.at 1).at 0).i 0))) :: ((.d .bool (db false)) :: ((.ptr 4 [3] (.struct [3, 9, 9, 4, 3, 40])) :: ((.ptr 4 [3, 1] .str) :: ((.d .str (((r11.at 1).at 3).at 1)) :: ((.ptr 2 [4] (.slice 9)) :: ((.d (.slice 9) (d9.at 4)) :: ((.d (.int .i64) (di i6)) :: ((.cptr .str (ix (d9.at 4).elems i6.toNat)) :: ((.d .str (ix (d9.at 4).elems i6.toNat)) :: ((.d .bool (db (!(eqS (((r11.at 1).at 3).at 1).s (ix (d9.at 4).elems i6.toNat).s)))) :: ((.d .bool (db (!(eqS (((r11.at 1).at 3).at 1).s (ix (d9.at 4).elems i6.toNat).s)))) :: ((.d .bool (db true)) :: ((.tup []) :: ((.tup []) :: ((.tup []) :: ((.tup []) :: ((.d .bool (db true)) :: (us 1 []))))))))))))))))))))))))))))))))))))))))))))))))))))))))))))))))))))) [(.var (.struct [49, 3, 3]) (.d (.struct [49, 3, 3]) d7)), (.var (.struct [49, 3, 3]) (.d (.struct [49, 3, 3]) d8)), (.var (.struct [28, 3, 9, 42, 40]) (.d (.struct [28, 3, 9, 42, 40]) d9)), (.var (.struct [49, 3, 3]) (.d (.struct [49, 3, 3]) (r11.at 0))), (.var (.struct [28, 3, 9, 42, 40]) (.d (.struct [28, 3, 9, 42, 40]) (r11.at 1)))]
  | .e3 d5 i6 d7 d8 d9 r10 r11 => k .ret (us 2 ((.d .bool (db false)) :: ((.d .bool d5) :: (us 1 ((.ptr 0 [] (.struct [49, 3, 3])) :: (us 3 ((.ptr 2 [] (.struct [28, 3, 9, 42, 40])) :: (us 1 ((.d (.int .i64) (di i6)) :: ((.d .bool r10) :: ((.ptr 3 [] (.struct [49, 3, 3])) :: ((.ptr 4 [] (.struct [28, 3, 9, 42, 40])) :: ((.d (.slice 38) (r11.at 2)) :: (us 29 ((.d (.int .i64) (di i6)) :: ((.ptr 2 [4] (.slice 9)) :: ((.d (.slice 9) (d9.at 4)) :: ((.d (.int .i64) (di (nI (d9.at 4).elems.length))) :: ((.d .bool (db (ltI i6 (nI (d9.at 4).elems.length)))) :: (us 2 ((.d (.int .i64) (di i6)) :: ((.d .bool (db (gtI i6 0))) :: ((.ptr 2 [4] (.slice 9)) :: ((.d (.slice 9) (d9.at 4)) :: ((.d (.int .i64) (di i6)) :: ((.d (.int .i64) (di (sb .i64 i6 1))) :: ((.cptr .str (ix (d9.at 4).elems (sb .i64 i6 1).toNat)) :: ((.d .str (ix (d9.at 4).elems (sb .i64 i6 1).toNat)) :: ((.ptr 2 [4] (.slice 9)) :: ((.d (.slice 9) (d9.at 4)) :: ((.d (.int .i64) (di i6)) :: ((.cptr .str (ix (d9.at 4).elems i6.toNat)) :: ((.d .str (ix (d9.at 4).elems i6.toNat)) :: ((.d .bool r10) :: ((.d .bool r10) :: ((.d .bool (db (!r10.b))) :: ((.dtup [(.struct [49, 3, 3]), (.struct [28, 3, 9, 42, 40]), (.slice 38)] r11) :: ((.d (.struct [49, 3, 3]) d7) :: ((.ptr 2 [4] (.slice 9)) :: ((.d (.slice 9) (d9.at 4)) :: ((.d (.int .i64) (di i6)) :: ((.cptr .str (ix (d9.at 4).elems i6.toNat)) :: ((.d .str (ix (d9.at 4).elems i6.toNat)) :: ((.d (.struct [34, 9, 9, 3, 3, 3]) (da [(di 10), (ix (d9.at 4).elems i6.toNat), (dS (bs [])), (di 0), (di 0), (di 0)])) :: ((.dtup [(.struct [49, 3, 3]), (.struct [28, 3, 9, 42, 40]), (.slice 38)] r11) :: ((.d (.struct [49, 3, 3]) (r11.at 0)) :: ((.d (.struct [28, 3, 9, 42, 40]) (r11.at 1)) :: ((.d (.slice 38) (r11.at 2)) :: ((.ptr 4 [0] (.int .i64)) :: ((.d (.int .i64) ((r11.at 1).at 0)) :: ((.d .bool (db (neI ((r11.at 1).at 0).i 0))) :: ((.d .bool (db false)) :: ((.ptr 4 [3] (.struct [3, 9, 9, 4, 3, 40])) :: ((.ptr 4 [3, 1] .str) :: ((.d .str (((r11.at 1).at 3).at 1)) :: ((.ptr 2 [4] (.slice 9)) :: ((.d (.slice 9) (d9.at 4)) :: ((.d (.int .i64) (di i6)) :: ((.cptr .str (ix (d9.at 4).elems i6.toNat)) :: ((.d .str (ix (d9.at 4).elems i6.toNat)) :: ((.d .bool (db (!(eqS (((r11.at 1).at 3).at 1).s (ix (d9.at 4).elems i6.toNat).s)))) :: ((.d .bool (db (!(eqS (((r11.at 1).at 3).at 1).s (ix (d9.at 4).elems i6.toNat).s)))) :: ((.d .bool (db false)) :: ((.ptr 4 [3] (.struct [3, 9, 9, 4, 3, 40])) :: ((.ptr 4 [3, 2] .str) :: ((.d .str (((r11.at 1).at 3).at 2)) :: ((.d .bool (db (!(eqS (((r11.at 1).at 3).at 2).s (bs []))))) :: ((.d .bool (db (!(eqS (((r11.at 1).at 3).at 2).s (bs []))))) :: (us 1 []))))))))))))))))))))))))))))))))))))))))))))))))))))))))))))))))))))) [(.var (.struct [49, 3, 3]) (.d (.struct [49, 3, 3]) d7)), (.var (.struct [49, 3, 3]) (.d (.struct [49, 3, 3]) d8)), (.var (.struct [28, 3, 9, 42, 40]) (.d (.struct [28, 3, 9, 42, 40]) d9)), (.var (.struct [49, 3, 3]) (.d (.struct [49, 3, 3]) (r11.at 0))), (.var (.struct [28, 3, 9, 42, 40]) (.d (.struct [28, 3, 9, 42, 40]) (r11.at 1)))]
  | .e4 d5 i6 d7 d8 d9 r12 => k .ret (us 2 ((.d .bool (db false)) :: ((.d .bool d5) :: (us 1 ((.ptr 0 [] (.struct [49, 3, 3])) :: (us 3 ((.ptr 2 [] (.struct [28, 3, 9, 42, 40])) :: (us 1 ((.d (.int .i64) (di i6)) :: (us 1 ((.ptr 3 [] (.struct [49, 3, 3])) :: ((.ptr 4 [] (.struct [28, 3, 9, 42, 40])) :: ((.d (.slice 38) (r12.at 2)) :: (us 29 ((.d (.int .i64) (di i6)) :: ((.ptr 2 [4] (.slice 9)) :: ((.d (.slice 9) (d9.at 4)) :: ((.d (.int .i64) (di (nI (d9.at 4).elems.length))) :: ((.d .bool (db (ltI i6 (nI (d9.at 4).elems.length)))) :: (us 2 ((.d (.int .i64) (di i6)) :: ((.d .bool (db (gtI i6 0))) :: (us 14 ((.dtup [(.struct [49, 3, 3]), (.struct [28, 3, 9, 42, 40]), (.slice 38)] r12) :: ((.d (.struct [49, 3, 3]) d7) :: ((.ptr 2 [4] (.slice 9)) :: ((.d (.slice 9) (d9.at 4)) :: ((.d (.int .i64) (di i6)) :: ((.cptr .str (ix (d9.at 4).elems i6.toNat)) :: ((.d .str (ix (d9.at 4).elems i6.toNat)) :: ((.d (.struct [34, 9, 9, 3, 3, 3]) (da [(di 10), (ix (d9.at 4).elems i6.toNat), (dS (bs [])), (di 0), (di 0), (di 0)])) :: ((.dtup [(.struct [49, 3, 3]), (.struct [28, 3, 9, 42, 40]), (.slice 38)] r12) :: ((.d (.struct [49, 3, 3]) (r12.at 0)) :: ((.d (.struct [28, 3, 9, 42, 40]) (r12.at 1)) :: ((.d (.slice 38) (r12.at 2)) :: ((.ptr 4 [0] (.int .i64)) :: ((.d (.int .i64) ((r12.at 1).at 0)) :: ((.d .bool (db (neI ((r12.at 1).at 0).i 0))) :: ((.d .bool (db true)) :: ((.tup []) :: ((.tup []) :: ((.tup []) :: ((.tup []) :: ((.tup []) :: ((.tup []) :: ((.tup []) :: ((.tup []) :: ((.tup []) :: ((.d .bool (db true)) :: ((.d .bool (db true)) :: ((.tup []) :: ((.tup []) :: ((.tup []) :: ((.tup []) :: ((.d .bool (db true)) :: (us 1 [])))))))))))))))))))))))))))))))))))))))))))))))))))))))) [(.var (.struct [49, 3, 3]) (.d (.struct [49, 3, 3]) d7)), (.var (.struct [49, 3, 3]) (.d (.struct [49, 3, 3]) d8)), (.var (.struct [28, 3, 9, 42, 40]) (.d (.struct [28, 3, 9, 42, 40]) d9)), (.var (.struct [49, 3, 3]) (.d (.struct [49, 3, 3]) (r12.at 0))), (.var (.struct [28, 3, 9, 42, 40]) (.d (.struct [28, 3, 9, 42, 40]) (r12.at 1)))]
  | .e5 d5 i6 d7 d8 d9 r12 => k .ret (us 2 ((.d .bool (db false)) :: ((.d .bool d5) :: (us 1 ((.ptr 0 [] (.struct [49, 3, 3])) :: (us 3 ((.ptr 2 [] (.struct [28, 3, 9, 42, 40])) :: (us 1 ((.d (.int .i64) (di i6)) :: (us 1 ((.ptr 3 [] (.struct [49, 3, 3])) :: ((.ptr 4 [] (.struct [28, 3, 9, 42, 40])) :: ((.d (.slice 38) (r12.at 2)) :: (us 29 ((.d (.int .i64) (di i6)) :: ((.ptr 2 [4] (.slice 9)) :: ((.d (.slice 9) (d9.at 4)) :: ((.d (.int .i64) (di (nI (d9.at 4).elems.length))) :: ((.d .bool (db (ltI i6 (nI (d9.at 4).elems.length)))) :: (us 2 ((.d (.int .i64) (di i6)) :: ((.d .bool (db (gtI i6 0))) :: (us 14 ((.dtup [(.struct [49, 3, 3]), (.struct [28, 3, 9, 42, 40]), (.slice 38)] r12) :: ((.d (.struct [49, 3, 3]) d7) :: ((.ptr 2 [4] (.slice 9)) :: ((.d (.slice 9) (d9.at 4)) :: ((.d (.int .i64) (di i6)) :: ((.cptr .str (ix (d9.at 4).elems i6.toNat)) :: ((.d .str (ix (d9.at 4).elems i6.toNat)) :: ((.d (.struct [34, 9, 9, 3, 3, 3]) (da [(di 10), (ix (d9.at 4).elems i6.toNat), (dS (bs [])), (di 0), (di 0), (di 0)])) :: ((.dtup [(.struct [49, 3, 3]), (.struct [28, 3, 9, 42, 40]), (.slice 38)] r12) :: ((.d (.struct [49, 3, 3]) (r12.at 0)) :: ((.d (.struct [28, 3, 9, 42, 40]) (r12.at 1)) :: ((.d (.slice 38) (r12.at 2)) :: ((.ptr 4 [0] (.int .i64)) :: ((.d (.int .i64) ((r12.at 1).at 0)) :: ((.d .bool (db (neI ((r12.at 1).at 0).i 0))) :: ((.d .bool (db false)) :: ((.ptr 4 [3] (.struct [3, 9, 9, 4, 3, 40])) :: ((.ptr 4 [3, 1] .str) :: ((.d .str (((r12.at 1).at 3).at 1)) :: ((.ptr 2 [4] (.slice 9)) :: ((.d (.slice 9) (d9.at 4)) :: ((.d (.int .i64) (di i6)) :: ((.cptr .str (ix (d9.at 4).elems i6.toNat)) :: ((.d .str (ix (d9.at 4).elems i6.toNat)) :: ((.d .bool (db (!(eqS (((r12.at 1).at 3).at 1).s (ix (d9.at 4).elems i6.toNat).s)))) :: ((.d .bool (db (!(eqS (((r12.at 1).at 3).at 1).s (ix (d9.at 4).elems i6.toNat).s)))) :: ((.d .bool (db true)) :: ((.tup []) :: ((.tup []) :: ((.tup []) :: ((.tup []) :: ((.d .bool (db true)) :: (us 1 [])))))))))))))))))))))))))))))))))))))))))))))))))))))))) [(.var (.struct [49, 3, 3]) (.d (.struct [49, 3, 3]) d7)), (.var (.struct [49, 3, 3]) (.d (.struct [49, 3, 3]) d8)), (.var (.struct [28, 3, 9, 42, 40]) (.d (.struct [28, 3, 9, 42, 40]) d9)), (.var (.struct [49, 3, 3]) (.d (.struct [49, 3, 3]) (r12.at 0))), (.var (.struct [28, 3, 9, 42, 40]) (.d (.struct [28, 3, 9, 42, 40]) (r12.at 1)))]
  | .e6 d5 i6 d7 d8 d9 r12 => k .ret (us 2 ((.d .bool (db false)) :: ((.d .bool d5) :: (us 1 ((.ptr 0 [] (.struct [49, 3, 3])) :: (us 3 ((.ptr 2 [] (.struct [28, 3, 9, 42, 40])) :: (us 1 ((.d (.int .i64) (di i6)) :: (us 1 ((.ptr 3 [] (.struct [49, 3, 3])) :: ((.ptr 4 [] (.struct [28, 3, 9, 42, 40])) :: ((.d (.slice 38) (r12.at 2)) :: (us 29 ((.d (.int .i64) (di i6)) :: ((.ptr 2 [4] (.slice 9)) :: ((.d (.slice 9) (d9.at 4)) :: ((.d (.int .i64) (di (nI (d9.at 4).elems.length))) :: ((.d .bool (db (ltI i6 (nI (d9.at 4).elems.length)))) :: (us 2 ((.d (.int .i64) (di i6)) :: ((.d .bool (db (gtI i6 0))) :: (us 14 ((.dtup [(.struct [49, 3, 3]), (.struct [28, 3, 9, 42, 40]), (.slice 38)] r12) :: ((.d (.struct [49, 3, 3]) d7) :: ((.ptr 2 [4] (.slice 9)) :: ((.d (.slice 9) (d9.at 4)) :: ((.d (.int .i64) (di i6)) :: ((.cptr .str (ix (d9.at 4).elems i6.toNat)) :: ((.d .str (ix (d9.at 4).elems i6.toNat)) :: ((.d (.struct [34, 9, 9, 3, 3, 3]) (da [(di 10), (ix (d9.at 4).elems i6.toNat), (dS (bs [])), (di 0), (di 0), (di 0)])) :: ((.dtup [(.struct [49, 3, 3]), (.struct [28, 3, 9, 42, 40]), (.slice 38)] r12) :: ((.d (.struct [49, 3, 3]) (r12.at 0)) :: ((.d (.struct [28, 3, 9, 42, 40]) (r12.at 1)) :: ((.d (.slice 38) (r12.at 2)) :: ((.ptr 4 [0] (.int .i64)) :: ((.d (.int .i64) ((r12.at 1).at 0)) :: ((.d .bool (db (neI ((r12.at 1).at 0).i 0))) :: ((.d .bool (db false)) :: ((.ptr 4 [3] (.struct [3, 9, 9, 4, 3, 40])) :: ((.ptr 4 [3, 1] .str) :: ((.d .str (((r12.at 1).at 3).at 1)) :: ((.ptr 2 [4] (.slice 9)) :: ((.d (.slice 9) (d9.at 4)) :: ((.d (.int .i64) (di i6)) :: ((.cptr .str (ix (d9.at 4).elems i6.toNat)) :: ((.d .str (ix (d9.at 4).elems i6.toNat)) :: ((.d .bool (db (!(eqS (((r12.at 1).at 3).at 1).s (ix (d9.at 4).elems i6.toNat).s)))) :: ((.d .bool (db (!(eqS (((r12.at 1).at 3).at 1).s (ix (d9.at 4).elems i6.toNat).s)))) :: ((.d .bool (db false)) :: ((.ptr 4 [3] (.struct [3, 9, 9, 4, 3, 40])) :: ((.ptr 4 [3, 2] .str) :: ((.d .str (((r12.at 1).at 3).at 2)) :: ((.d .bool (db (!(eqS (((r12.at 1).at 3).at 2).s (bs []))))) :: ((.d .bool (db (!(eqS (((r12.at 1).at 3).at 2).s (bs []))))) :: (us 1 [])))))))))))))))))))))))))))))))))))))))))))))))))))))))) [(.var (.struct [49, 3, 3]) (.d (.struct [49, 3, 3]) d7)), (.var (.struct [49, 3, 3]) (.d (.struct [49, 3, 3]) d8)), (.var (.struct [28, 3, 9, 42, 40]) (.d (.struct [28, 3, 9, 42, 40]) d9)), (.var (.struct [49, 3, 3]) (.d (.struct [49, 3, 3]) (r12.at 0))), (.var (.struct [28, 3, 9, 42, 40]) (.d (.struct [28, 3, 9, 42, 40]) (r12.at 1)))]
  | .e d5 i6 d7 d8 d9 => k (.exit 0) (us 3 ((.d .bool d5) :: (us 1 ((.ptr 0 [] (.struct [49, 3, 3])) :: (us 3 ((.ptr 2 [] (.struct [28, 3, 9, 42, 40])) :: (us 1 ((.d (.int .i64) (di i6)) :: (us 33 ((.d (.int .i64) (di i6)) :: ((.ptr 2 [4] (.slice 9)) :: ((.d (.slice 9) (d9.at 4)) :: ((.d (.int .i64) (di (nI (d9.at 4).elems.length))) :: ((.d .bool (db (ltI i6 (nI (d9.at 4).elems.length)))) :: (us 51 []))))))))))))))) [(.var (.struct [49, 3, 3]) (.d (.struct [49, 3, 3]) d7)), (.var (.struct [49, 3, 3]) (.d (.struct [49, 3, 3]) d8)), (.var (.struct [28, 3, 9, 42, 40]) (.d (.struct [28, 3, 9, 42, 40]) d9))]
def ps12 : List PV := (up 3 ((.d .bool .x) :: (up 1 ((.ptr 0 [] (.struct [49, 3, 3])) :: (up 3 ((.ptr 2 [] (.struct [28, 3, 9, 42, 40])) :: (up 1 ((.d (.int .i64) (.int .i64)) :: (up 89 [])))))))))
def qs12 : List PO := [(.var (.struct [49, 3, 3]) (.d (.struct [49, 3, 3]) .x)), (.var (.struct [49, 3, 3]) (.d (.struct [49, 3, 3]) .x)), (.var (.struct [28, 3, 9, 42, 40]) (.d (.struct [28, 3, 9, 42, 40]) .x))]
noncomputable def sum12 (M : Nat) : Sum := sumS [3, 5, 9, 11] ps12 qs12 [] of12 (st12 M) ex12 M
theorem sok12 (M : Nat) : SumOk (loopRd (e M) 7 12) (e M) (call (e M) 11) 7 0 (loopAt (e M) 7 12) (sum12 M) :=
  sumOk_st (T := tblOf (t7_0 M)) (n0 := 3) (lv := lv12) (t7_0_ok M) (by kernel_rfl) rfl (by intro ls s h; unfold of12 at h; (repeat' split at h) <;> simp at h; subst h; rfl) (by intro s; kernel_rfl) (by intro s; kernel_rfl) (by intro s nx k; kernel_rfl)
noncomputable def t7_1 (M : Nat) : List Ent := ⟨7, 11, 0, 12, sum12 M⟩ :: t7_0 M
theorem t7_1_ok (M : Nat) : AllOk (e M) (tblOf (t7_1 M)) := (t7_0_ok M).add ⟨7, 11, 0, 12, sum12 M⟩ (by kernel_rfl) (sok12 M)
def s (M : Nat) (p0 : D) : Option D :=
  (bd (F17.s FUEL) fun r1 => (cond (!r1.b) (some (db false)) (bd (F18.s FUEL p0) fun r2 => (cond (!r2.b) (some r1) (bd (F19.s FUEL (da [(dl false []), (di 0), (di 0)]) p0) fun r3 => (bd (F20.s FUEL (r3.at 0) (da [(di 11), (dS (bs [])), (dS (bs [])), (di 0), (di 0), (di 0)])) fun r4 => (cond (neI (nI ((r4.at 1).at 4).elems.length) (nI ((r3.at 0).at 0).elems.length)) (some (db false)) (goS (st12 M) M ⟨r1, 0, (r3.at 0), (r4.at 0), (r4.at 1)⟩ fun x => match x with | .e0 d5 i6 d7 d8 d9 r10 => (some (db false)) | .e1 d5 i6 d7 d8 d9 r10 r11 => (some (db false)) | .e2 d5 i6 d7 d8 d9 r10 r11 => (some (db false)) | .e3 d5 i6 d7 d8 d9 r10 r11 => (some (db false)) | .e4 d5 i6 d7 d8 d9 r12 => (some (db false)) | .e5 d5 i6 d7 d8 d9 r12 => (some (db false)) | .e6 d5 i6 d7 d8 d9 r12 => (some (db false)) | .e d5 i6 d7 d8 d9 => (some d5)))))))))
theorem run (M : Nat) (p0 : D) : callS (e M) (tblOf (t7_1 M)) 12 (.fn 7) [.d (.slice 47) p0] [] (fun v H => finish ty [4] v H) = s M p0 := by kernel_rfl
noncomputable abbrev t (M : Nat) : List Ent := t7_1 M
theorem t_ok (M : Nat) : AllOk (e M) (tblOf (t M)) := t7_1_ok M
def c : Con := { run := fun ds => match ds with | [p0] => s FUEL p0 | _ => none, fresh := false, plain := true }
theorem fun_at : Tryd.prog.funcs[7]? = some Tryd.f7 := by kernel_rfl
theorem params : Tryd.f7.params.toList.map ty = [(.slice 47)] := by kernel_rfl
theorem results : Tryd.f7.resultTypes.toList = [4] := by kernel_rfl
theorem flat : Tryd.f7.resultTypes.toList.all (fun t => K.flat ty 20 (ty t)) = true := by kernel_rfl
theorem ok : ConOk (7, c) := by
  intro fn hfn
  obtain rfl : Tryd.f7 = fn := Option.some.inj (fun_at.symm.trans hfn)
  refine contract_flat (n := 20) hgl (fun _ => flat) (fun ds r hh0 hr => ?_)
  rw [params] at hh0
  obtain ⟨p0, ds0, rfl, h0, hh1⟩ := hass_cons hh0
  obtain rfl := hass_nil hh1
  refine ⟨e FUEL, DEPTH, tblOf (t FUEL), envOk (allCons F17.ok (allCons F18.ok (allCons F19.ok (allCons F20.ok (allCons F23.ok allNil))))) allNil, rfl, t_ok FUEL, ?_⟩
  rw [params, results]
  exact (run FUEL p0).trans hr
end F7
namespace F8
def cons : List (Nat × Con) := [(17, F17.c), (18, F18.c), (19, F19.c), (20, F20.c), (21, F21.c)]
def exts : List (Nat × Ext) := []
def h : List (Nat × Nat × Hint) := [(8, 12, { live := [1, 5, 7, 9, 10, 11, 13], rows := [], own := false, inpl := false })]
noncomputable def e (M : Nat) : Env := env cons exts h M
noncomputable def t8_0 (_ : Nat) : List Ent := []
theorem t8_0_ok (M : Nat) : AllOk (e M) (tblOf (t8_0 M)) := AllOk.nil
structure S12 where
  s5 : ByteArray
  d6 : D
  d7 : D
  i8 : Int
  d9 : D
  d10 : D
  d11 : D
inductive X12 where
  | e0 (s5 : ByteArray) (d6 : D) (d7 : D) (i8 : Int) (d9 : D) (d10 : D) (d11 : D)
  | e1 (s5 : ByteArray) (d6 : D) (d7 : D) (i8 : Int) (d9 : D) (d10 : D) (d11 : D)
def st12 (M : Nat) : S12 → (S12 → Option D) → (X12 → Option D) → Option D
  | ⟨s5, d6, d7, i8, d9, d10, d11⟩, rec, K => (cond (ltI i8 (nI d7.elems.length)) (cond (inb i8 d7.elems.length) (cond (geI ((ix d7.elems i8.toNat).at 1).i (d11.at 1).i) (K (.e0 s5 d6 d7 i8 d9 d10 d11)) (rec ⟨s5, d6, d7, (ad .i64 i8 1), d9, d10, d11⟩)) none) (K (.e1 s5 d6 d7 i8 d9 d10 d11)))
def lv12 : S12 → List Leaf
  | ⟨s5, d6, d7, i8, d9, d10, d11⟩ => [.s s5, .d d6, .d d7, .i i8, .d d9, .d d10, .d d11]
def of12 : List Leaf → Option S12
  | [.s s5, .d d6, .d d7, .i i8, .d d9, .d d10, .d d11] => some ⟨s5, d6, d7, i8, d9, d10, d11⟩
  | _ => none
def ex12 (k : Kont) : X12 → Option D
  | .e0 s5 d6 d7 i8 d9 d10 d11 => k .ret (us 1 ((.d .str (dS s5)) :: (us 2 ((.d .bool (db false)) :: ((.d .bool d6) :: (us 1 ((.ptr 0 [] (.struct [49, 3, 3])) :: (us 1 ((.d (.slice 38) d7) :: ((.ptr 1 [] (.struct [49, 3, 3])) :: ((.ptr 2 [] (.struct [28, 3, 9, 42, 40])) :: (us 1 ((.d (.int .i64) (di i8)) :: (us 39 ((.d (.int .i64) (di i8)) :: ((.d (.slice 38) d7) :: ((.d (.int .i64) (di (nI d7.elems.length))) :: ((.d .bool (db (ltI i8 (nI d7.elems.length)))) :: (us 2 ((.d (.slice 38) d7) :: ((.d (.int .i64) (di i8)) :: ((.cptr (.struct [34, 3, 9, 3, 3, 36]) (ix d7.elems i8.toNat)) :: ((.cptr (.int .i64) ((ix d7.elems i8.toNat).at 1)) :: ((.d (.int .i64) ((ix d7.elems i8.toNat).at 1)) :: ((.ptr 2 [1] (.int .i64)) :: ((.d (.int .i64) (d11.at 1)) :: ((.d .bool (db (geI ((ix d7.elems i8.toNat).at 1).i (d11.at 1).i))) :: (us 26 [])))))))))))))))))))))))))))) [(.var (.struct [49, 3, 3]) (.d (.struct [49, 3, 3]) d9)), (.var (.struct [49, 3, 3]) (.d (.struct [49, 3, 3]) d10)), (.var (.struct [28, 3, 9, 42, 40]) (.d (.struct [28, 3, 9, 42, 40]) d11))]
  | .e1 s5 d6 d7 i8 d9 d10 d11 => k (.exit 0) (us 1 ((.d .str (dS s5)) :: (us 3 ((.d .bool d6) :: (us 1 ((.ptr 0 [] (.struct [49, 3, 3])) :: (us 1 ((.d (.slice 38) d7) :: ((.ptr 1 [] (.struct [49, 3, 3])) :: ((.ptr 2 [] (.struct [28, 3, 9, 42, 40])) :: (us 1 ((.d (.int .i64) (di i8)) :: (us 39 ((.d (.int .i64) (di i8)) :: ((.d (.slice 38) d7) :: ((.d (.int .i64) (di (nI d7.elems.length))) :: ((.d .bool (db (ltI i8 (nI d7.elems.length)))) :: (us 36 [])))))))))))))))))) [(.var (.struct [49, 3, 3]) (.d (.struct [49, 3, 3]) d9)), (.var (.struct [49, 3, 3]) (.d (.struct [49, 3, 3]) d10)), (.var (.struct [28, 3, 9, 42, 40]) (.d (.struct [28, 3, 9, 42, 40]) d11))]
def ps12 : List PV := (up 1 ((.d .str .str) :: (up 3 ((.d .bool .x) :: (up 1 ((.ptr 0 [] (.struct [49, 3, 3])) :: (up 1 ((.d (.slice 38) .x) :: ((.ptr 1 [] (.struct [49, 3, 3])) :: ((.ptr 2 [] (.struct [28, 3, 9, 42, 40])) :: (up 1 ((.d (.int .i64) (.int .i64)) :: (up 79 [])))))))))))))
def qs12 : List PO := [(.var (.struct [49, 3, 3]) (.d (.struct [49, 3, 3]) .x)), (.var (.struct [49, 3, 3]) (.d (.struct [49, 3, 3]) .x)), (.var (.struct [28, 3, 9, 42, 40]) (.d (.struct [28, 3, 9, 42, 40]) .x))]
noncomputable def sum12 (M : Nat) : Sum := sumS [1, 5, 7, 9, 10, 11, 13] ps12 qs12 [] of12 (st12 M) ex12 M
theorem sok12 (M : Nat) : SumOk (loopRd (e M) 8 12) (e M) (call (e M) 11) 8 0 (loopAt (e M) 8 12) (sum12 M) :=
  sumOk_st (T := tblOf (t8_0 M)) (n0 := 3) (lv := lv12) (t8_0_ok M) (by kernel_rfl) rfl (by intro ls s h; unfold of12 at h; (repeat' split at h) <;> simp at h; subst h; rfl) (by intro s; kernel_rfl) (by intro s; kernel_rfl) (by intro s nx k; kernel_rfl)
noncomputable def t8_1 (M : Nat) : List Ent := ⟨8, 11, 0, 12, sum12 M⟩ :: t8_0 M
theorem t8_1_ok (M : Nat) : AllOk (e M) (tblOf (t8_1 M)) := (t8_0_ok M).add ⟨8, 11, 0, 12, sum12 M⟩ (by kernel_rfl) (sok12 M)
def s (M : Nat) (p0 : D) (p1 : ByteArray) : Option D :=
  (bd (F17.s FUEL) fun r1 => (cond (!r1.b) (some (db false)) (bd (F18.s FUEL p0) fun r2 => (cond (!r2.b) (some r1) (cond (gtI (nI p1.size) 200) (some r1) (bd (F19.s FUEL (da [(dl false []), (di 0), (di 0)]) p0) fun r3 => (bd (F20.s FUEL (r3.at 0) (da [(di 0), (dS p1), (dS (bs [])), (di 0), (di 0), (di 0)])) fun r4 => (cond (neI ((r4.at 1).at 0).i 0) (cond r1.b (some (db (eqI ((r4.at 0).at 1).i ((r3.at 0).at 1).i))) (some (db false))) (goS (st12 M) M ⟨p1, r1, (r3.at 2), 0, (r3.at 0), (r4.at 0), (r4.at 1)⟩ fun x => match x with | .e0 s5 d6 d7 i8 d9 d10 d11 => (some (db false)) | .e1 s5 d6 d7 i8 d9 d10 d11 => (bdB d6 fun g12 => (cond g12 (cond (eqI (d11.at 1).i (ad .i64 (d9.at 1).i 1)) (cond (eqI (d10.at 1).i (d11.at 1).i) (bd (F21.s FUEL d10 s5) fun r13 => (some (db (eqI r13.i (sb .i64 (nI (d10.at 0).elems.length) 1))))) (some (db false))) (some (db false))) (some (db false)))))))))))))
theorem run (M : Nat) (p0 : D) (p1 : ByteArray) : callS (e M) (tblOf (t8_1 M)) 12 (.fn 8) [.d (.slice 47) p0, .d .str (dS p1)] [] (fun v H => finish ty [4] v H) = s M p0 p1 := by kernel_rfl
noncomputable abbrev t (M : Nat) : List Ent := t8_1 M
theorem t_ok (M : Nat) : AllOk (e M) (tblOf (t M)) := t8_1_ok M
def c : Con := { run := fun ds => match ds with | [p0, p1] => s FUEL p0 p1.s | _ => none, fresh := false, plain := true }
theorem fun_at : Tryd.prog.funcs[8]? = some Tryd.f8 := by kernel_rfl
theorem params : Tryd.f8.params.toList.map ty = [(.slice 47), .str] := by kernel_rfl
theorem results : Tryd.f8.resultTypes.toList = [4] := by kernel_rfl
theorem flat : Tryd.f8.resultTypes.toList.all (fun t => K.flat ty 20 (ty t)) = true := by kernel_rfl
theorem ok : ConOk (8, c) := by
  intro fn hfn
  obtain rfl : Tryd.f8 = fn := Option.some.inj (fun_at.symm.trans hfn)
  refine contract_flat (n := 20) hgl (fun _ => flat) (fun ds r hh0 hr => ?_)
  rw [params] at hh0
  obtain ⟨p0, ds0, rfl, h0, hh1⟩ := hass_cons hh0
  obtain ⟨p1, ds1, rfl, h1, hh2⟩ := hass_cons hh1
  obtain ⟨p1, rfl⟩ := has_str h1
  obtain rfl := hass_nil hh2
  refine ⟨e FUEL, DEPTH, tblOf (t FUEL), envOk (allCons F17.ok (allCons F18.ok (allCons F19.ok (allCons F20.ok (allCons F21.ok allNil))))) allNil, rfl, t_ok FUEL, ?_⟩
  rw [params, results]
  exact (run FUEL p0 p1).trans hr
end F8
end Go.AM.SD
namespace Go.AM.SD
open Go Go.AM
def newS (s : St) (n : ByteArray) : St := ⟨true, s.files ++ [⟨s.last + 1, n, bs [], false, 0, false, []⟩], s.last + 1, s.floor⟩
theorem create_res (s : St) (o : Mo) : (∃ e : Int, e ≠ 0 ∧ createM s o = stay s e) ∨
    (createM s o = ⟨newS s o.name, ⟨0, s.last + 1, bs [], zeroF, false, []⟩, true, [⟨0, s.last + 1, o.name, 0, 0, zeros⟩]⟩ ∧ (∀ f ∈ s.files, f.name ≠ o.name) ∧ s.last < 1099511627776 ∧ s.files.length < 12) := by
  unfold createM
  split
  · exact .inl ⟨2, by simp, rfl⟩
  split
  · exact .inl ⟨4, by simp, rfl⟩
  split
  · exact .inl ⟨10, by simp, rfl⟩
  split
  · exact .inl ⟨10, by simp, rfl⟩
  rename_i h1 h2 h3 h4
  refine .inr ⟨rfl, fun f hf e => h2 (findI_nonneg.2 ?_), by omega, by omega⟩
  simp only [List.any_eq_true, decide_eq_true_eq]
  exact ⟨f, hf, e⟩
theorem doM_create (sum : ByteArray → List Int) (s : St) (o : Mo) (h : o.kind = 0) : doM sum s o = createM s o := by
  unfold doM
  rw [if_neg (by omega), if_neg (by omega), if_pos h]
theorem runM_ok {l : List Mo} (hl : ∀ o ∈ l, MoOk o) : StOk (runM shaL emptyS l).st := runFrom_ok emptyS_ok hl
theorem mo_ok {k : Int} {n t : ByteArray} {tm a b : Int} (hk : i64ok k) (htm : i64ok tm) (ha : i64ok a) (hb : i64ok b) (hn : n.size ≤ 1000) (ht : t.size ≤ 1000) : MoOk ⟨k, n, t, tm, a, b⟩ := ⟨hk, htm, ha, hb, hn, ht⟩
theorem z64 : i64ok 0 := by simp [i64ok]
theorem numbers_law (nn : Bool) (l : List Mo) (hs : ∀ o ∈ l, o.ok) (n : ByteArray) : F8.s FUEL (dl nn (l.map Mo.enc)) n = some (db true) := by
  unfold F8.s
  refine bdS works_M (cf rfl (bdS (few_specM nn l) ?_))
  cases hf : fewM l with
  | false => exact ct rfl rfl
  | true =>
    obtain ⟨hlen, hl⟩ := few_okM hf hs
    refine cf rfl ?_
    by_cases hn : 200 < n.size
    · exact ct (by simp; omega) rfl
    refine cf (by simp; omega) (bdS (run_spec emptyS nn l emptyS_ok hl (by omega)) ?_)
    have hS := runM_ok hl
    have hev : ∀ e ∈ (runM shaL emptyS l).evs, e.id ≤ (runM shaL emptyS l).st.last := runFrom_last (l := l) (r := run0 emptyS) emptyS_ok hl (by simp [run0])
    have helen : (runM shaL emptyS l).evs.length ≤ 12 * l.length := by
      have key : ∀ (l : List Mo) (r : Run), StOk r.st → (∀ o ∈ l, MoOk o) → (runFrom shaL l r).evs.length ≤ r.evs.length + 12 * l.length := by
        intro l
        induction l with
        | nil => intro r _ _; simp [runFrom]
        | cons o l ih =>
          intro r hr hl
          have h1 := do_evs_len (sum := shaL) (o := o) hr
          have h2 := ih ⟨(doM shaL r.st o).st, true, r.ans ++ [(doM shaL r.st o).an], r.nnE || !(doM shaL r.st o).evs.isEmpty, r.evs ++ (doM shaL r.st o).evs⟩ (do_ok hr (hl o (by simp))) (fun o' h' => hl o' (by simp [h']))
          rw [runFrom]
          simp only [List.length_append, List.length_cons] at h2 ⊢
          omega
      have := key l (run0 emptyS) emptyS_ok hl
      simp only [run0, List.length_nil, Nat.zero_add] at this
      exact this
    generalize hR : runM shaL emptyS l = R at hS hev helen
    have ho : MoOk ⟨0, n, bs [], 0, 0, 0⟩ := mo_ok z64 z64 z64 z64 (by omega) (by simp)
    have l0 := hS.last0
    have l1 := hS.last1
    refine bdS (do_specM R.st ⟨0, n, bs [], 0, 0, 0⟩ hS ho) ?_
    rw [doM_create _ _ _ rfl]
    rcases create_res R.st ⟨0, n, bs [], 0, 0, 0⟩ with ⟨e, he, hc⟩ | ⟨hc, hno, hlt, h12⟩
    · rw [hc]
      refine ct (by show neI e 0 = true; simpa using he) (ct rfl ?_)
      show some (db (eqI R.st.last R.st.last)) = _
      simp [eqI]
    · have hO := create_ok hS ho
      rw [hc] at hO ⊢
      refine cf rfl ?_
      refine goS_rule (fun t : F8.S12 => ∃ k : Nat, t = ⟨n, db true, dl R.nnE (R.evs.map Ev.enc), (k : Int), R.st.enc, (newS R.st n).enc, An.enc ⟨0, R.st.last + 1, bs [], zeroF, false, []⟩⟩ ∧ k ≤ R.evs.length) (fun t => R.evs.length - t.i8.toNat) (fun o => o = some (db true)) ?_ _ _ ⟨0, rfl, by omega⟩ (by simp [FUEL]; omega)
      rintro _ rec ⟨k, rfl, hk⟩ hrec
      simp only [F8.st12]
      by_cases h1 : k < R.evs.length
      · have hadd : ad .i64 (k : Int) 1 = ((k + 1 : Nat) : Int) := by rw [ad64 (by omega) (by omega)]; rfl
        have hid := hev _ (List.getElem_mem h1)
        refine ct (by simp; omega) (ct (by simp; omega) ?_)
        simp only [elems_slice, Int.toNat_natCast, ix_map h1]
        refine cf (by show geI R.evs[k].id (R.st.last + 1) = false; simp; omega) ?_
        rw [hadd]
        exact hrec _ ⟨k + 1, rfl, by omega⟩ (by simp; omega)
      · refine cf (by simp; omega) ?_
        have hadd : ad .i64 R.st.last 1 = R.st.last + 1 := by rw [ad64 (by omega) (by omega)]
        have hOl := hO.len
        show bdB (db true) _ = _
        refine bdBS rfl (ct rfl (ct (by show eqI (R.st.last + 1) (ad .i64 R.st.last 1) = true; rw [hadd]; simp) (ct (by show eqI (R.st.last + 1) (R.st.last + 1) = true; simp) ?_)))
        have hfind : findI (fun f : Fl => decide (f.name = n)) (newS R.st n).files = (R.st.files.length : Int) := by
          refine findI_some (findIdx_some_of (by simp [newS]) (fun i hi hik => ?_) (by simp [newS]))
          have e : (newS R.st n).files[i] = R.st.files[i] := List.getElem_append_left hik
          have := hno _ (List.getElem_mem hik)
          rw [← e] at this
          exact decide_eq_false this
        have hsp := find_specM (newS R.st n) n (by dsimp only at hOl; omega)
        rw [hfind] at hsp
        refine bdS hsp ?_
        have hsub : sb .i64 (nI ((newS R.st n).files.map Fl.enc).length) 1 = (R.st.files.length : Int) := by
          have : ((newS R.st n).files.map Fl.enc).length = R.st.files.length + 1 := by simp [newS]
          rw [this, nI_eq, sb64 (by omega) (by omega)]; omega
        show some (db (eqI (R.st.files.length : Int) (sb .i64 (nI ((newS R.st n).files.map Fl.enc).length) 1))) = _
        rw [hsub]
        simp [eqI]
theorem pure8 : ∀ ds, D.hass ty ds [(.slice 47), .str] → D.wfs ds → F8.c.run ds = some (.bool true) := by
  intro ds h hw
  obtain ⟨d0, _, rfl, h0, h⟩ := hassC h
  obtain ⟨d1, _, rfl, h1, h⟩ := hassC h
  obtain rfl := hass0 h
  simp only [D.wfs] at hw
  obtain ⟨nn, l, rfl, hl⟩ := mos_of h0 hw.1
  obtain ⟨n, rfl⟩ := has_str h1
  exact numbers_law nn l hl n
end Go.AM.SD
namespace Go.AM.SD
open Go Go.AM
theorem findI_at {s : St} {n : ByteArray} {f : Fl} (h : atName s n = some f) : ∃ i, ∃ hi : i < s.files.length, findI (fun f : Fl => decide (f.name = n)) s.files = (i : Int) ∧ s.files[i] = f := by
  obtain ⟨i, hi, h1, h2, _⟩ := at_findM h
  exact ⟨i, hi, findI_some h1, h2⟩
theorem findI_no {s : St} {n : ByteArray} (h : atName s n = none) : findI (fun f : Fl => decide (f.name = n)) s.files = -1 := findI_none (findM_no.2 h)
theorem apart_law (nn : Bool) (l : List Mo) (hs : ∀ o ∈ l, o.ok) (o : Mo) (ho : o.ok) (n : ByteArray) : F6.s FUEL (dl nn (l.map Mo.enc)) o.enc n = some (db true) := by
  unfold F6.s
  refine bdS works_M (cf rfl (bdS (few_specM nn l) ?_))
  cases hf : fewM l with
  | false => exact cf rfl rfl
  | true =>
    obtain ⟨hlen, hl⟩ := few_okM hf hs
    refine ct rfl (bdS (few_specM true [o]) ?_)
    cases hf1 : fewM [o] with
    | false => exact ct rfl rfl
    | true =>
      obtain ⟨_, hl1⟩ := few_okM hf1 (by simpa using ho)
      have hoo := hl1 o (by simp)
      refine cf rfl ?_
      by_cases hn : o.name = n
      · exact ct (by show eqS o.name n = true; simpa using hn) rfl
      refine cf (by show eqS o.name n = false; simpa using hn) ?_
      by_cases h8 : o.kind = 8
      · exact ct (by show eqI o.kind 8 = true; simpa using h8) rfl
      refine cf (by show eqI o.kind 8 = false; simpa using h8) ?_
      by_cases h7 : o.kind = 7
      · exact ct (by show eqI o.kind 7 = true; simpa using h7) rfl
      refine cf (by show eqI o.kind 7 = false; simpa using h7) (bdS (run_spec emptyS nn l emptyS_ok hl (by omega)) ?_)
      have hS : StOk (runM shaL emptyS l).st := runFrom_ok emptyS_ok hl
      generalize hR : runM shaL emptyS l = R at hS
      have hT := do_ok (sum := shaL) hS hoo
      have hap := apart (sum := shaL) hS hoo hn h8
      refine bdS (do_specM R.st o hS hoo) (bdS (find_specM R.st n (by have := hS.len; omega)) (bdS (find_specM (doM shaL R.st o).st n (by have := hT.len; omega)) ?_))
      cases ha : atName R.st n with
      | none =>
        rw [ha] at hap
        rw [findI_no ha, findI_no hap]
        exact ct (by simp) (ct rfl (by simp [eqI]))
      | some f =>
        rw [ha] at hap
        obtain ⟨i, hi, e1, e2⟩ := findI_at ha
        obtain ⟨j, hj, e3, e4⟩ := findI_at hap
        rw [e1, e3]
        have hfo := (hS.files f (by rw [← e2]; exact List.getElem_mem hi)).hold
        refine cf (by simp) (cf (by simp) (bdBS rfl (ct rfl (ct (by show inb (i : Int) (R.st.files.map Fl.enc).length = true; simp; omega) (ct (by show inb (j : Int) ((doM shaL R.st o).st.files.map Fl.enc).length = true; simp; omega) ?_)))))
        have g1 : ix (R.st.files.map Fl.enc) ((di (i : Int)).i).toNat = f.enc := by
          show ix (R.st.files.map Fl.enc) (i : Int).toNat = _
          rw [Int.toNat_natCast, ix_map hi, e2]
        have g2 : ix ((doM shaL R.st o).st.files.map Fl.enc) ((di (j : Int)).i).toNat = f.enc := by
          show ix ((doM shaL R.st o).st.files.map Fl.enc) (j : Int).toNat = _
          rw [Int.toNat_natCast, ix_map hj, e4]
        show (bd (F22.s FUEL (ix (R.st.files.map Fl.enc) ((di (i : Int)).i).toNat) (ix ((doM shaL R.st o).st.files.map Fl.enc) ((di (j : Int)).i).toNat)) fun r9 => some r9) = _
        rw [g1, g2]
        exact bdS (same_ref f (by omega)) rfl
theorem pure6 : ∀ ds, D.hass ty ds [(.slice 47), (.struct [34, 9, 9, 3, 3, 3]), .str] → D.wfs ds → F6.c.run ds = some (.bool true) := by
  intro ds h hw
  obtain ⟨d0, _, rfl, h0, h⟩ := hassC h
  obtain ⟨d1, _, rfl, h1, h⟩ := hassC h
  obtain ⟨d2, _, rfl, h2, h⟩ := hassC h
  obtain rfl := hass0 h
  simp only [D.wfs] at hw
  obtain ⟨nn, l, rfl, hl⟩ := mos_of h0 hw.1
  obtain ⟨o, rfl, ho⟩ := mo_of h1 hw.2.1
  obtain ⟨n, rfl⟩ := has_str h2
  exact apart_law nn l hl o ho n
end Go.AM.SD
namespace Go.AM.SD
open Go Go.AM
def bN (t : ByteArray) (k : Nat) : Nat := (t.data.toList.getD k 0).toNat
theorem byteAt_bN (t : ByteArray) (k : Nat) : byteAt t k = (bN t k : Int) := rfl
theorem bN_lt (t : ByteArray) (k : Nat) : bN t k < 256 := (t.data.toList.getD k 0).toNat_lt
theorem cv_byte (t : ByteArray) (k : Nat) : cv .i64 (byteAt t k) = (bN t k : Int) := by
  have := bN_lt t k
  have h := ad64 (a := (bN t k : Int)) (b := 0) (by omega) (by omega)
  rw [byteAt_bN]
  simpa [ad, cv] using h
theorem r22 {M N : Nat} {t : ByteArray} {n i : Nat} {low v : Int} (hi : i < n) (hn : n ≤ 4) (hs : n ≤ t.size) (hv0 : 0 ≤ v) (hv1 : v ≤ 100000000) (K : F74.X22 → Option D) (NEG : Option D)
    (h0 : ∀ a b c d e, K (.e0 a b c d e) = NEG) (h1 : ∀ a b c d e, K (.e1 a b c d e) = NEG) :
    goS (F74.st22 M) (N + 1) ⟨t, (n : Int), low, v, (i : Int)⟩ K = if 128 ≤ bN t i ∧ bN t i ≤ 191 then goS (F74.st22 M) N ⟨t, (n : Int), low, v * 64 + (bN t i : Int) - 128, ((i + 1 : Nat) : Int)⟩ K else NEG := by
  have hb := bN_lt t i
  have hml : ml .i64 v 64 = v * 64 := ml64 (by omega) (by omega)
  have had : ad .i64 (v * 64) (bN t i : Int) = v * 64 + (bN t i : Int) := ad64 (by omega) (by omega)
  have hsb : sb .i64 (v * 64 + (bN t i : Int)) 128 = v * 64 + (bN t i : Int) - 128 := sb64 (by omega) (by omega)
  have hadd : ad .i64 (i : Int) 1 = ((i + 1 : Nat) : Int) := by rw [ad64 (by omega) (by omega)]; rfl
  show F74.st22 M ⟨t, (n : Int), low, v, (i : Int)⟩ (fun s => goS (F74.st22 M) N s K) K = _
  simp only [F74.st22, Int.toNat_natCast, cv_byte, hml, had, hsb, hadd]
  by_cases hc : 128 ≤ bN t i ∧ bN t i ≤ 191
  · rw [if_pos hc]
    exact ct (by simp; omega) (ct (by simp; omega) (cf (by simp; omega) (cf (by simp; omega) rfl)))
  · rw [if_neg hc]
    refine ct (by simp; omega) (ct (by simp; omega) ?_)
    by_cases h : bN t i < 128
    · exact ct (by simp; omega) (h0 _ _ _ _ _)
    · exact cf (by simp; omega) (ct (by simp; omega) (h1 _ _ _ _ _))
theorem e22 {M N : Nat} {t : ByteArray} {n : Nat} {low v : Int} (K : F74.X22 → Option D) : goS (F74.st22 M) (N + 1) ⟨t, (n : Int), low, v, (n : Int)⟩ K = K (.e2 t (n : Int) low v (n : Int)) := by
  show F74.st22 M ⟨t, (n : Int), low, v, (n : Int)⟩ (fun s => goS (F74.st22 M) N s K) K = _
  simp only [F74.st22]
  exact cf (by simp) rfl
def refR (p : Nat × Nat) : Int × Int := if p.1 = 65533 ∧ p.2 < 2 then (-1, 1) else ((p.1 : Int), (p.2 : Int))
def tupR (x : Int × Int) : Option D := some (D.tup [di x.1, di x.2])
theorem decode_bN (t : ByteArray) : Utf8.decode t 0 = Lib.decodeN t.size (bN t 0) (bN t 1) (bN t 2) (bN t 3) := by
  rw [Lib.decode_N]
  rfl
theorem neg_R : tupR (refR (65533, 1)) = some (D.tup [di (-1), di 1]) := rfl
theorem rune_spec (t : ByteArray) (ht : 0 < t.size) : F74.s FUEL t = tupR (refR (Utf8.decode t 0)) := by
  rw [decode_bN]
  have k0 := bN_lt t 0
  have k1 := bN_lt t 1
  have k2 := bN_lt t 2
  have k3 := bN_lt t 3
  generalize hb1 : bN t 1 = b1 at k1
  generalize hb2 : bN t 2 = b2 at k2
  generalize hb3 : bN t 3 = b3 at k3
  unfold F74.s
  simp only [cv_byte]
  generalize hb0 : bN t 0 = b0 at k0
  refine ct (by simp only [inb_t]; omega) ?_
  have hF : FUEL = 1048572 + 1 + 1 + 1 + 1 := rfl
  by_cases c0 : b0 < 128
  · refine ct (by simp only [ltI_t]; omega) ?_
    have : Lib.decodeN t.size b0 b1 b2 b3 = (b0, 1) := by unfold Lib.decodeN; rw [if_pos c0]
    rw [this]
    unfold refR tupR
    rw [if_neg (by dsimp only; omega)]
    rfl
  refine cf (by simp only [ltI_f]; omega) ?_
  by_cases c1 : b0 < 194
  · have : Lib.decodeN t.size b0 b1 b2 b3 = (65533, 1) := by
      unfold Lib.decodeN
      rw [if_neg c0]
      split
      · rw [if_neg (by omega)]
      · rw [if_neg (by omega), if_neg (by omega)]
    rw [this, neg_R]
    refine cf (by simp only [geI_f]; omega) (cf (by simp only [geI_f]; omega) (cf (by simp only [geI_f]; omega) rfl))
  by_cases c2 : b0 < 224
  · refine ct (by simp only [geI_t]; omega) (ct (by simp only [ltI_t]; omega) ?_)
    by_cases hsz : t.size < 2
    · have : Lib.decodeN t.size b0 b1 b2 b3 = (65533, 1) := by
        unfold Lib.decodeN
        rw [if_neg c0, if_neg (by omega), if_neg (by omega), if_neg (by omega)]
      rw [this, neg_R]
      exact ct (by simp only [ltI_t, nI_eq]; omega) rfl
    refine cf (by simp only [ltI_f, nI_eq]; omega) ?_
    have hsb : sb .i64 (b0 : Int) 192 = (b0 : Int) - 192 := sb64 (by omega) (by omega)
    rw [hsb]
    have step := r22 (M := FUEL) (N := 1048572 + 1 + 1 + 1) (t := t) (n := 2) (i := 1) (low := 128) (v := (b0 : Int) - 192) (by omega) (by omega) (by omega) (by omega) (by omega)
      (fun x => match x with | .e0 s1 i2 i3 i4 i5 => (some (D.tup [(di (-1)), (di 1)])) | .e1 s1 i2 i3 i4 i5 => (some (D.tup [(di (-1)), (di 1)])) | .e2 s1 i2 i3 i4 i5 => (cond (ltI i4 i3) (some (D.tup [(di (-1)), (di 1)])) (cond (gtI i4 1114111) (some (D.tup [(di (-1)), (di 1)])) (cond (geI i4 55296) (cond (leI i4 57343) (some (D.tup [(di (-1)), (di 1)])) (some (D.tup [(di i4), (di i2)]))) (some (D.tup [(di i4), (di i2)])))))) (some (D.tup [(di (-1)), (di 1)])) (fun _ _ _ _ _ => rfl) (fun _ _ _ _ _ => rfl)
    refine Eq.trans step ?_
    rw [hb1]
    by_cases hc : 128 ≤ b1 ∧ b1 ≤ 191
    · rw [if_pos hc, e22]
      have : Lib.decodeN t.size b0 b1 b2 b3 = (b0 % 32 * 64 + b1 % 64, 2) := by
        unfold Lib.decodeN
        rw [if_neg c0, if_pos (by omega), if_pos (by omega)]
      rw [this]
      have hv : ((b0 : Int) - 192) * 64 + (b1 : Int) - 128 = ((b0 % 32 * 64 + b1 % 64 : Nat) : Int) := by omega
      rw [hv]
      refine cf (by simp only [ltI_f]; omega) (cf (by simp only [gtI_f]; omega) (cf (by simp only [geI_f]; omega) ?_))
      unfold refR tupR
      rw [if_neg (by dsimp only; omega)]
    · rw [if_neg hc]
      have : Lib.decodeN t.size b0 b1 b2 b3 = (65533, 1) := by
        unfold Lib.decodeN
        rw [if_neg c0, if_neg (by omega), if_neg (by omega), if_neg (by omega)]
      rw [this, neg_R]
  refine ct (by simp only [geI_t]; omega) (cf (by simp only [ltI_f]; omega) ?_)
  by_cases c3 : b0 < 240
  · refine ct (by simp only [geI_t]; omega) (ct (by simp only [ltI_t]; omega) ?_)
    by_cases hsz : t.size < 3
    · have : Lib.decodeN t.size b0 b1 b2 b3 = (65533, 1) := by
        unfold Lib.decodeN
        rw [if_neg c0, if_neg (by omega), if_neg (by omega), if_neg (by omega)]
      rw [this, neg_R]
      exact ct (by simp only [ltI_t, nI_eq]; omega) rfl
    refine cf (by simp only [ltI_f, nI_eq]; omega) ?_
    have hsb : sb .i64 (b0 : Int) 224 = (b0 : Int) - 224 := sb64 (by omega) (by omega)
    rw [hsb]
    have step := r22 (M := FUEL) (N := 1048572 + 1 + 1 + 1) (t := t) (n := 3) (i := 1) (low := 2048) (v := (b0 : Int) - 224) (by omega) (by omega) (by omega) (by omega) (by omega)
      (fun x => match x with | .e0 s1 i2 i3 i4 i5 => (some (D.tup [(di (-1)), (di 1)])) | .e1 s1 i2 i3 i4 i5 => (some (D.tup [(di (-1)), (di 1)])) | .e2 s1 i2 i3 i4 i5 => (cond (ltI i4 i3) (some (D.tup [(di (-1)), (di 1)])) (cond (gtI i4 1114111) (some (D.tup [(di (-1)), (di 1)])) (cond (geI i4 55296) (cond (leI i4 57343) (some (D.tup [(di (-1)), (di 1)])) (some (D.tup [(di i4), (di i2)]))) (some (D.tup [(di i4), (di i2)])))))) (some (D.tup [(di (-1)), (di 1)])) (fun _ _ _ _ _ => rfl) (fun _ _ _ _ _ => rfl)
    refine Eq.trans step ?_
    rw [hb1]
    by_cases hc : 128 ≤ b1 ∧ b1 ≤ 191
    · rw [if_pos hc, r22 (by omega) (by omega) (by omega) (by omega) (by omega) _ (some (D.tup [(di (-1)), (di 1)])) (fun _ _ _ _ _ => rfl) (fun _ _ _ _ _ => rfl), hb2]
      by_cases hc2 : 128 ≤ b2 ∧ b2 ≤ 191
      · rw [if_pos hc2, e22]
        have hv : (((b0 : Int) - 224) * 64 + (b1 : Int) - 128) * 64 + (b2 : Int) - 128 = ((b0 % 16 * 4096 + b1 % 64 * 64 + b2 % 64 : Nat) : Int) := by omega
        rw [hv]
        generalize hcc : b0 % 16 * 4096 + b1 % 64 * 64 + b2 % 64 = c
        by_cases hok : c ≥ 2048 ∧ (c < 55296 ∨ (57344 ≤ c ∧ c ≤ 1114111))
        · have : Lib.decodeN t.size b0 b1 b2 b3 = (c, 3) := by
            unfold Lib.decodeN
            rw [if_neg c0, if_neg (by omega), if_pos (by omega), hcc, if_pos hok]
          rw [this]
          refine cf (by simp only [ltI_f]; omega) (cf (by simp only [gtI_f]; omega) ?_)
          have hfin : some (D.tup [di (c : Int), di ((3 : Nat) : Int)]) = tupR (refR (c, 3)) := by
            unfold refR tupR
            rw [if_neg (by dsimp only; omega)]
          by_cases h55 : 55296 ≤ c
          · exact ct (by simp only [geI_t]; omega) (cf (by simp only [leI_f]; omega) hfin)
          · exact cf (by simp only [geI_f]; omega) hfin
        · have : Lib.decodeN t.size b0 b1 b2 b3 = (65533, 1) := by
            unfold Lib.decodeN
            rw [if_neg c0, if_neg (by omega), if_pos (by omega), hcc, if_neg hok]
          rw [this, neg_R]
          by_cases hlow : c < 2048
          · exact ct (by simp only [ltI_t]; omega) rfl
          · refine cf (by simp only [ltI_f]; omega) (cf (by simp only [gtI_f]; omega) (ct (by simp only [geI_t]; omega) (ct (by simp only [leI_t]; omega) rfl)))
      · rw [if_neg hc2]
        have : Lib.decodeN t.size b0 b1 b2 b3 = (65533, 1) := by
          unfold Lib.decodeN
          rw [if_neg c0, if_neg (by omega), if_neg (by omega), if_neg (by omega)]
        rw [this, neg_R]
    · rw [if_neg hc]
      have : Lib.decodeN t.size b0 b1 b2 b3 = (65533, 1) := by
        unfold Lib.decodeN
        rw [if_neg c0, if_neg (by omega), if_neg (by omega), if_neg (by omega)]
      rw [this, neg_R]
  refine ct (by simp only [geI_t]; omega) (cf (by simp only [ltI_f]; omega) (ct (by simp only [geI_t]; omega) ?_))
  by_cases c4 : b0 < 245
  · refine ct (by simp only [ltI_t]; omega) ?_
    by_cases hsz : t.size < 4
    · have : Lib.decodeN t.size b0 b1 b2 b3 = (65533, 1) := by
        unfold Lib.decodeN
        rw [if_neg c0, if_neg (by omega), if_neg (by omega), if_neg (by omega)]
      rw [this, neg_R]
      exact ct (by simp only [ltI_t, nI_eq]; omega) rfl
    refine cf (by simp only [ltI_f, nI_eq]; omega) ?_
    have hsb : sb .i64 (b0 : Int) 240 = (b0 : Int) - 240 := sb64 (by omega) (by omega)
    rw [hsb]
    have step := r22 (M := FUEL) (N := 1048572 + 1 + 1 + 1) (t := t) (n := 4) (i := 1) (low := 65536) (v := (b0 : Int) - 240) (by omega) (by omega) (by omega) (by omega) (by omega)
      (fun x => match x with | .e0 s1 i2 i3 i4 i5 => (some (D.tup [(di (-1)), (di 1)])) | .e1 s1 i2 i3 i4 i5 => (some (D.tup [(di (-1)), (di 1)])) | .e2 s1 i2 i3 i4 i5 => (cond (ltI i4 i3) (some (D.tup [(di (-1)), (di 1)])) (cond (gtI i4 1114111) (some (D.tup [(di (-1)), (di 1)])) (cond (geI i4 55296) (cond (leI i4 57343) (some (D.tup [(di (-1)), (di 1)])) (some (D.tup [(di i4), (di i2)]))) (some (D.tup [(di i4), (di i2)])))))) (some (D.tup [(di (-1)), (di 1)])) (fun _ _ _ _ _ => rfl) (fun _ _ _ _ _ => rfl)
    refine Eq.trans step ?_
    rw [hb1]
    by_cases hc : 128 ≤ b1 ∧ b1 ≤ 191
    · rw [if_pos hc, r22 (by omega) (by omega) (by omega) (by omega) (by omega) _ (some (D.tup [(di (-1)), (di 1)])) (fun _ _ _ _ _ => rfl) (fun _ _ _ _ _ => rfl), hb2]
      by_cases hc2 : 128 ≤ b2 ∧ b2 ≤ 191
      · rw [if_pos hc2, r22 (by omega) (by omega) (by omega) (by omega) (by omega) _ (some (D.tup [(di (-1)), (di 1)])) (fun _ _ _ _ _ => rfl) (fun _ _ _ _ _ => rfl), hb3]
        by_cases hc3 : 128 ≤ b3 ∧ b3 ≤ 191
        · rw [if_pos hc3, e22]
          have hv : ((((b0 : Int) - 240) * 64 + (b1 : Int) - 128) * 64 + (b2 : Int) - 128) * 64 + (b3 : Int) - 128 = ((b0 % 8 * 262144 + b1 % 64 * 4096 + b2 % 64 * 64 + b3 % 64 : Nat) : Int) := by omega
          rw [hv]
          generalize hcc : b0 % 8 * 262144 + b1 % 64 * 4096 + b2 % 64 * 64 + b3 % 64 = c
          by_cases hok : c ≥ 65536 ∧ (c < 55296 ∨ (57344 ≤ c ∧ c ≤ 1114111))
          · have : Lib.decodeN t.size b0 b1 b2 b3 = (c, 4) := by
              unfold Lib.decodeN
              rw [if_neg c0, if_neg (by omega), if_neg (by omega), if_pos (by omega), hcc, if_pos hok]
            rw [this]
            refine cf (by simp only [ltI_f]; omega) (cf (by simp only [gtI_f]; omega) (ct (by simp only [geI_t]; omega) (cf (by simp only [leI_f]; omega) ?_)))
            unfold refR tupR
            rw [if_neg (by dsimp only; omega)]
          · have : Lib.decodeN t.size b0 b1 b2 b3 = (65533, 1) := by
              unfold Lib.decodeN
              rw [if_neg c0, if_neg (by omega), if_neg (by omega), if_pos (by omega), hcc, if_neg hok]
            rw [this, neg_R]
            by_cases hlow : c < 65536
            · exact ct (by simp only [ltI_t]; omega) rfl
            · exact cf (by simp only [ltI_f]; omega) (ct (by simp only [gtI_t]; omega) rfl)
        · rw [if_neg hc3]
          have : Lib.decodeN t.size b0 b1 b2 b3 = (65533, 1) := by
            unfold Lib.decodeN
            rw [if_neg c0, if_neg (by omega), if_neg (by omega), if_neg (by omega)]
          rw [this, neg_R]
      · rw [if_neg hc2]
        have : Lib.decodeN t.size b0 b1 b2 b3 = (65533, 1) := by
          unfold Lib.decodeN
          rw [if_neg c0, if_neg (by omega), if_neg (by omega), if_neg (by omega)]
        rw [this, neg_R]
    · rw [if_neg hc]
      have : Lib.decodeN t.size b0 b1 b2 b3 = (65533, 1) := by
        unfold Lib.decodeN
        rw [if_neg c0, if_neg (by omega), if_neg (by omega), if_neg (by omega)]
      rw [this, neg_R]
  · refine cf (by simp only [ltI_f]; omega) ?_
    have : Lib.decodeN t.size b0 b1 b2 b3 = (65533, 1) := by
      unfold Lib.decodeN
      rw [if_neg c0, if_neg (by omega), if_neg (by omega)]
      split
      · rw [if_neg (by omega)]
      · rfl
    rw [this, neg_R]
theorem runes_ref (s : ByteArray) (hs : s.size ≤ 1048576) : F41.s FUEL s = some (dl (!(keys s).isEmpty) ((keys s).map di)) := by
  unfold F41.s
  have hlen := keys_len s
  have key : ∀ p, p < s.size → (runesFrom s p).map (keyR s) = keyR s (p, (Utf8.decode s p).1) :: (runesFrom s (p + (Utf8.decode s p).2)).map (keyR s) := fun p hp => by rw [runesFrom_step hp]; rfl
  refine goS_rule (fun t : F41.S3 => ∃ (p : Nat) (l : List Int), t = ⟨s, 0, l.length, (p : Int), !l.isEmpty, l.map di⟩ ∧ p ≤ s.size + 4 ∧ keys s = l ++ (runesFrom s p).map (keyR s)) (fun t => s.size - t.i4.toNat) (fun o => o = some (dl (!(keys s).isEmpty) ((keys s).map di))) ?_ _ _ ⟨0, [], rfl, by omega, by simp [keys, runes, runesFrom]⟩ (by simp [FUEL]; omega)
  rintro _ rec ⟨p, l, rfl, hp4, hk⟩ hrec
  have hll : l.length ≤ s.size := by
    have := congrArg List.length hk
    simp at this; omega
  simp only [F41.st3]
  by_cases h : p < s.size
  · refine ct (by simp only [ltI_t, nI_eq]; omega) (ct (by simp; omega) ?_)
    have hsz : (s.extract (Int.toNat (p : Int)) s.size).size = s.size - p := by simp
    refine bdS (rune_spec _ (by rw [hsz]; omega)) ?_
    have hde : Utf8.decode (s.extract (Int.toNat (p : Int)) s.size) 0 = Utf8.decode s p := by rw [Int.toNat_natCast, Lib.tail_decode, Nat.add_zero]
    rw [hde]
    rw [key p h] at hk
    have hpos := decode_pos s p
    have hw : (Utf8.decode s p).2 ≤ 4 := by
      rw [Lib.decode_N]
      generalize (s.data.toList.length - p) = n
      rcases Lib.decodeN_shape n (s.data.toList.getD p 0).toNat (s.data.toList.getD (p + 1) 0).toNat (s.data.toList.getD (p + 2) 0).toNat (s.data.toList.getD (p + 3) 0).toNat with ⟨_, e⟩ | ⟨_, _, _, _, e⟩ | ⟨_, _, _, _, _, _, e⟩ | ⟨_, _, _, _, _, _, _, e⟩ | e
      all_goals rw [e]; simp
    have htop := dec_top s p
    have fin : ∀ (x : Int) (w : Int), x = keyR s (p, (Utf8.decode s p).1) → w = ((Utf8.decode s p).2 : Int) → rec ⟨s, 0, l.length + 1, ad .i64 (p : Int) w, !l.isEmpty || true, ap (((l.map di).drop 0).take l.length) [di x]⟩ = some (dl (!(keys s).isEmpty) ((keys s).map di)) := by
      rintro x w rfl rfl
      have hadd : ad .i64 (p : Int) ((Utf8.decode s p).2 : Int) = ((p + (Utf8.decode s p).2 : Nat) : Int) := by rw [ad64 (by omega) (by omega)]; rfl
      rw [hadd]
      refine hrec _ ⟨p + (Utf8.decode s p).2, l ++ [keyR s (p, (Utf8.decode s p).1)], ?_, by omega, by rw [hk]; simp⟩ ?_
      · rw [F41.S3.mk.injEq]
        refine ⟨rfl, rfl, by simp, rfl, by cases l <;> rfl, ?_⟩
        rw [List.drop_zero, List.take_of_length_le (by simp), ap, List.map_append]
        rfl
      · dsimp only; omega
    unfold refR
    by_cases hb : (Utf8.decode s p).1 = 65533 ∧ (Utf8.decode s p).2 < 2
    · rw [if_pos hb]
      have hr := byteAt_range s p
      refine ct (by show ltI (-1) 0 = true; simp) (ct (by simp only [inb_t]; omega) (ct (by simp; omega) ?_))
      have e1 : ad .i64 1114112 (cv .i64 (byteAt s (Int.toNat (p : Int)))) = keyR s (p, (Utf8.decode s p).1) := by
        rw [Int.toNat_natCast, cv_byte, ← byteAt_bN, ad64 (by omega) (by omega), keyR, if_pos hb]
      exact fin _ _ e1 (by show (1 : Int) = _; omega)
    · rw [if_neg hb]
      refine cf (by show ltI ((Utf8.decode s p).1 : Int) 0 = false; simp) (ct (by simp; omega) ?_)
      exact fin _ _ (by rw [keyR, if_neg hb]) rfl
  · refine cf (by simp only [ltI_f, nI_eq]; omega) ?_
    rw [runesFrom_end (by omega)] at hk
    simp only [List.map_nil, List.append_nil] at hk
    rw [hk]
    exact ct (by simp) rfl
theorem less_ref (a b : ByteArray) (ha : a.size ≤ 1048576) (hb : b.size ≤ 1048576) : F23.s FUEL a b = some (db (lessB a b)) := by
  unfold F23.s
  refine bdS (runes_ref a ha) (bdS (runes_ref b hb) ?_)
  have hla := keys_len a
  have hlb := keys_len b
  simp only [elems_slice, nn_slice, List.length_map]
  generalize hx : keys a = xs at hla
  generalize hy : keys b = ys at hlb
  refine goS_rule (fun t : F23.S4 => ∃ i : Nat, t = ⟨0, xs.length, 0, ys.length, (i : Int), !xs.isEmpty, xs.map di, !ys.isEmpty, ys.map di⟩ ∧ i ≤ xs.length ∧ i ≤ ys.length ∧ ∀ j (h1 : j < xs.length) (h2 : j < ys.length), j < i → xs[j] = ys[j]) (fun t => xs.length - t.i7.toNat) (fun o => o = some (db (lessB a b))) ?_ _ _ ⟨0, by simp, by omega, by omega, by omega⟩ (by simp [FUEL]; omega)
  rintro _ rec ⟨i, rfl, hi, hi', hs⟩ hrec
  have hlex := lexB_drop hs hi hi'
  simp only [F23.st4]
  unfold lessB at hrec ⊢
  rw [hx, hy] at hrec ⊢
  have hend : (xs.drop i = [] ∨ ys.drop i = []) → (i = xs.length ∨ i = ys.length) → some (db (ltI (nI xs.length) (nI ys.length))) = some (db (lexB xs ys)) := by
    intro _ he
    rw [hlex]
    congr 2
    rw [Bool.eq_iff_iff, ltI_t, nI_eq, nI_eq]
    rcases he with rfl | rfl
    · rw [List.drop_length]
      simp only [lexB]
      rw [Bool.not_eq_true', List.isEmpty_eq_false_iff, ← List.length_pos_iff, List.length_drop]
      omega
    · rw [List.drop_length (l := ys)]
      by_cases hix : ys.length < xs.length
      · rw [List.drop_eq_getElem_cons hix]
        simp only [lexB]
        constructor
        · intro h; omega
        · intro h; simp at h
      · rw [List.drop_of_length_le (l := xs) (by omega)]
        simp only [lexB]
        constructor
        · intro h; omega
        · intro h; simp at h
  by_cases h1 : i < xs.length
  · by_cases h2 : i < ys.length
    · rw [List.drop_eq_getElem_cons h1, List.drop_eq_getElem_cons h2] at hlex
      simp only [lexB] at hlex
      refine ct (by simp; omega) (ct (by simp; omega) (ct (by simp; omega) (ct (by simp; omega) ?_)))
      simp only [Int.toNat_natCast, Nat.zero_add, ix_map h1, ix_map h2, i_int]
      by_cases h3 : xs[i] = ys[i]
      · refine cf (by simpa using h3) ?_
        have hadd : ad .i64 (i : Int) 1 = ((i + 1 : Nat) : Int) := by rw [ad64 (by omega) (by omega)]; rfl
        rw [hadd]
        refine hrec _ ⟨i + 1, rfl, by omega, by omega, ?_⟩ (by simp; omega)
        intro j hj1 hj2 hj
        by_cases hji : j = i
        · subst hji; exact h3
        · exact hs j hj1 hj2 (by omega)
      · refine ct (by simpa using h3) (ct (by simp; omega) (ct (by simp; omega) ?_))
        rw [if_neg h3] at hlex
        rw [hlex]
        rfl
    · refine ct (by simp; omega) (cf (by simp; omega) ?_)
      exact hend (.inr (List.drop_of_length_le (by omega))) (.inr (by omega))
  · refine cf (by simp; omega) ?_
    exact hend (.inl (List.drop_of_length_le (by omega))) (.inl (by omega))
end Go.AM.SD
namespace Go.AM.SD
open Go Go.AM
theorem doM_list (sum : ByteArray → List Int) (s : St) (o : Mo) (h : o.kind = 11) : doM sum s o = listM s := by
  unfold doM
  rw [if_neg (by omega), if_neg (by omega), if_neg (by omega), if_neg (by omega), if_neg (by omega), if_neg (by omega), if_neg (by omega), if_pos h]
theorem doM_stat (sum : ByteArray → List Int) (s : St) (o : Mo) (h : o.kind = 10) : doM sum s o = statM s o := by
  unfold doM
  rw [if_neg (by omega), if_neg (by omega), if_neg (by omega), if_neg (by omega), if_neg (by omega), if_neg (by omega), if_pos h]
def opList : Mo := ⟨11, bs [], bs [], 0, 0, 0⟩
theorem opList_ok : MoOk opList := mo_ok (by simp [i64ok]) z64 z64 z64 (by simp) (by simp)
theorem list_fact (s : St) (hs : StOk s) : F20.s FUEL s.enc opList.enc = some (listM s).enc := by
  have := do_specM s opList hs opList_ok
  rwa [doM_list _ _ _ rfl] at this
def opStat (n : ByteArray) : Mo := ⟨10, n, bs [], 0, 0, 0⟩
theorem opStat_ok {n : ByteArray} (h : n.size ≤ 1000) : MoOk (opStat n) := mo_ok (by simp [i64ok]) z64 z64 z64 h (by simp)
theorem stat_fact {s : St} (hs : StOk s) {f : Fl} (hf : f ∈ s.files) :
    F20.s FUEL s.enc (opStat f.name).enc = some (Res.enc ⟨s, ⟨0, 0, bs [], metaF f, false, []⟩, false, []⟩) := by
  have := do_specM s (opStat f.name) hs (opStat_ok (hs.files f hf).nsz)
  rw [doM_stat _ _ _ rfl] at this
  obtain ⟨i, hi, h1, h2, _⟩ := at_findM (at_mem hs hf)
  have e : statM s (opStat f.name) = ⟨s, ⟨0, 0, bs [], metaF f, false, []⟩, false, []⟩ := by
    unfold statM
    rw [show (opStat f.name).name = f.name from rfl, h1]
    simp only [List.getElem?_eq_getElem hi, h2]
  rwa [e] at this
theorem lists_law (nn : Bool) (l : List Mo) (hs : ∀ o ∈ l, o.ok) : F7.s FUEL (dl nn (l.map Mo.enc)) = some (db true) := by
  unfold F7.s
  refine bdS works_M (cf rfl (bdS (few_specM nn l) ?_))
  cases hf : fewM l with
  | false => exact ct rfl rfl
  | true =>
    obtain ⟨hlen, hl⟩ := few_okM hf hs
    refine cf rfl (bdS (run_spec emptyS nn l emptyS_ok hl (by omega)) ?_)
    have hS : StOk (runM shaL emptyS l).st := runFrom_ok emptyS_ok hl
    generalize hR : runM shaL emptyS l = R at hS
    obtain ⟨S, hSt⟩ : ∃ S : St, S = R.st := ⟨_, rfl⟩
    have hRe : R.enc.at 0 = S.enc := by rw [hSt]; rfl
    rw [← hSt] at hS
    have hl12 := hS.len
    have f5 := list_fact S hS
    rw [hRe]
    refine bdS f5 ?_
    obtain ⟨N, hN⟩ : ∃ N : List ByteArray, N = sortN (S.files.map (·.name)) := ⟨_, rfl⟩
    have hperm : N.Perm (S.files.map (·.name)) := by rw [hN]; exact sortN_perm _
    have hrise : riseB N := by rw [hN]; exact sortN_rise (names_nodup hS)
    have hNl : N.length = S.files.length := by rw [hperm.length_eq, List.length_map]
    have hmem : ∀ n ∈ N, ∃ f ∈ S.files, f.name = n := by
      intro n hn
      obtain ⟨f, hf, e⟩ := List.mem_map.1 (hperm.mem_iff.1 hn)
      exact ⟨f, hf, e⟩
    have h4 : (((listM S).enc.at 1).at 4) = dl (!S.files.isEmpty) (N.map dS) := by rw [hN]; rfl
    have hA : (listM S).enc.at 0 = S.enc := rfl
    refine cf ?_ ?_
    · rw [h4]
      show neI (nI (N.map dS).length) (nI (S.files.map Fl.enc).length) = false
      simp [hNl]
    obtain ⟨A, hAe⟩ : ∃ A : D, A = (listM S).enc.at 1 := ⟨_, rfl⟩
    rw [← hAe] at h4 ⊢
    refine goS_rule (fun t : F7.S12 => ∃ (k : Nat) (d : D), t = ⟨db true, (k : Int), S.enc, d, A⟩ ∧ k ≤ N.length) (fun t => N.length - t.i6.toNat) (fun o => o = some (db true)) ?_ _ _ ⟨0, _, rfl, by omega⟩ (by simp [FUEL]; omega)
    rintro _ rec ⟨k, d, rfl, hk⟩ hrec
    simp only [F7.st12, h4]
    by_cases h1 : k < N.length
    · have hadd : ad .i64 (k : Int) 1 = ((k + 1 : Nat) : Int) := by rw [ad64 (by omega) (by omega)]; rfl
      obtain ⟨f, hf, hfn⟩ := hmem _ (List.getElem_mem h1)
      have hst := stat_fact hS hf
      rw [hfn] at hst
      have hinb : inb (k : Int) (N.map dS).length = true := by simp; omega
      refine ct (by simp; omega) ?_
      simp only [elems_slice, Int.toNat_natCast, ix_map h1]
      by_cases h0 : 0 < k
      · refine ct (by simp; omega) ?_
        have hsb : sb .i64 (k : Int) 1 = ((k - 1 : Nat) : Int) := by rw [sb64 (by omega) (by omega)]; omega
        rw [hsb]
        have hinb' : inb ((k - 1 : Nat) : Int) (N.map dS).length = true := by simp; omega
        refine ct hinb' (ct hinb ?_)
        have hp : k - 1 < N.length := by omega
        simp only [Int.toNat_natCast, ix_map hp]
        have hs1 : ∀ i (hi : i < N.length), N[i].size ≤ 1048576 := by
          intro i hi
          obtain ⟨g, hg, e⟩ := hmem _ (List.getElem_mem hi)
          have := (hS.files g hg).nsz
          rw [← e]; omega
        have hlt : lessB N[k-1] N[k] = true := (List.pairwise_iff_getElem.1 hrise) (k-1) k hp h1 (by omega)
        refine bdS (less_ref _ _ (hs1 _ hp) (hs1 _ h1)) ?_
        refine cf (by show (!(lessB N[k-1] N[k])) = false; rw [hlt]; rfl) (ct hinb (bdS hst (cf rfl (ct hinb (cf ?_ (cf ?_ ?_))))))
        · show (!(eqS f.name N[k])) = false
          rw [hfn]; simp
        · show (!(eqS (bs []) (bs []))) = false
          simp
        · rw [hadd]
          exact hrec _ ⟨k + 1, d, rfl, by omega⟩ (by simp; omega)
      · refine cf (by simp; omega) (ct hinb (bdS hst (cf rfl (ct hinb (cf ?_ (cf ?_ ?_))))))
        · show (!(eqS f.name N[k])) = false
          rw [hfn]; simp
        · show (!(eqS (bs []) (bs []))) = false
          simp
        · rw [hadd]
          exact hrec _ ⟨k + 1, d, rfl, by omega⟩ (by simp; omega)
    · exact cf (by simp; omega) rfl
theorem pure7 : ∀ ds, D.hass ty ds [(.slice 47)] → D.wfs ds → F7.c.run ds = some (.bool true) := by
  intro ds h hw
  obtain ⟨d0, _, rfl, h0, h⟩ := hassC h
  obtain rfl := hass0 h
  simp only [D.wfs] at hw
  obtain ⟨nn, l, rfl, hl⟩ := mos_of h0 hw.1
  exact lists_law nn l hl
end Go.AM.SD
