/- Part 8 of the proof: the abstract machine, what the functions compute, and plain laws over that. -/
import Derived.Test.YtonknblidjpfeaaDoorAp7
set_option linter.all false
set_option linter.unusedSimpArgs false
set_option linter.unusedVariables false
set_option linter.unusedSectionVars false
namespace Go.AM.SD
open Go Go.AM Go.Proofs Go.RowKit
def FUEL : Nat := 1048576
abbrev DEPTH : Nat := 12
namespace F47
def s (M : Nat) (p0 : D) : Option D :=
  (cond (eqI (p0.at 0).i 0) (cond (eqI (p0.at 0).i 0) (some (dl true [(D.iface 120 (p0.at 1)), (D.iface 107 (p0.at 2))])) (cond (eqI (p0.at 0).i 1) (some (dl true [(D.iface 120 (p0.at 1)), (D.iface 120 (p0.at 4))])) (cond (eqI (p0.at 0).i 2) (some (dl true [(D.iface 120 (p0.at 1)), (D.iface 120 (p0.at 3)), (D.iface 120 (p0.at 4)), (D.iface 121 (p0.at 5))])) (cond (eqI (p0.at 0).i 3) (some (dl true [(D.iface 120 (p0.at 1)), (D.iface 120 (p0.at 3))])) (cond (eqI (p0.at 0).i 6) (some (dl true [(D.iface 120 (p0.at 1))])) (cond (eqI (p0.at 0).i 7) (some (dl true [(D.iface 120 (p0.at 3))])) (some (dl false [])))))))) (cond (eqI (p0.at 0).i 4) (cond (eqI (p0.at 0).i 4) (some (dl true [(D.iface 120 (p0.at 1)), (D.iface 107 (p0.at 2))])) (cond (eqI (p0.at 0).i 1) (some (dl true [(D.iface 120 (p0.at 1)), (D.iface 120 (p0.at 4))])) (cond (eqI (p0.at 0).i 2) (some (dl true [(D.iface 120 (p0.at 1)), (D.iface 120 (p0.at 3)), (D.iface 120 (p0.at 4)), (D.iface 121 (p0.at 5))])) (cond (eqI (p0.at 0).i 3) (some (dl true [(D.iface 120 (p0.at 1)), (D.iface 120 (p0.at 3))])) (cond (eqI (p0.at 0).i 6) (some (dl true [(D.iface 120 (p0.at 1))])) (cond (eqI (p0.at 0).i 7) (some (dl true [(D.iface 120 (p0.at 3))])) (some (dl false [])))))))) (cond (eqI (p0.at 0).i 5) (some (dl true [(D.iface 120 (p0.at 1)), (D.iface 107 (p0.at 2))])) (cond (eqI (p0.at 0).i 1) (some (dl true [(D.iface 120 (p0.at 1)), (D.iface 120 (p0.at 4))])) (cond (eqI (p0.at 0).i 2) (some (dl true [(D.iface 120 (p0.at 1)), (D.iface 120 (p0.at 3)), (D.iface 120 (p0.at 4)), (D.iface 121 (p0.at 5))])) (cond (eqI (p0.at 0).i 3) (some (dl true [(D.iface 120 (p0.at 1)), (D.iface 120 (p0.at 3))])) (cond (eqI (p0.at 0).i 6) (some (dl true [(D.iface 120 (p0.at 1))])) (cond (eqI (p0.at 0).i 7) (some (dl true [(D.iface 120 (p0.at 3))])) (some (dl false []))))))))))
def c : Con := { run := fun ds => match ds with | [p0] => s FUEL p0 | _ => none, fresh := false, plain := false }
end F47
namespace F48
structure S4 where
  i21 : Int
  n22 : Nat
  n23 : Nat
  d24 : D
  i25 : Int
  i26 : Int
  i27 : Int
  i28 : Int
  s29 : ByteArray
  i30 : Int
  i31 : Int
  d32 : D
  i33 : Int
  i34 : Int
  d35 : D
  i36 : Int
  i37 : Int
  d38 : D
  b39 : Bool
  l40 : (List D)
inductive X4 where
  | e0 (i21 : Int) (n22 : Nat) (n23 : Nat) (d24 : D) (i25 : Int) (i26 : Int) (i27 : Int) (i28 : Int) (s29 : ByteArray) (i30 : Int) (i31 : Int) (d32 : D) (i33 : Int) (i34 : Int) (d35 : D) (i36 : Int) (i37 : Int) (d38 : D) (b39 : Bool) (l40 : (List D))
def st4 (M : Nat) : S4 → (S4 → Option D) → (X4 → Option D) → Option D
  | ⟨i21, n22, n23, d24, i25, i26, i27, i28, s29, i30, i31, d32, i33, i34, d35, i36, i37, d38, b39, l40⟩, rec, K => (cond (ltI i26 i25) (cond (inb i26 d24.elems.length) (cond (isT 120 (ix d24.elems i26.toNat)) (cond (mx (n23 + 1)) (rec ⟨i21, 0, (n23 + 1), d24, i25, (ad .i64 i26 1), i27, i28, s29, i30, i31, d32, i33, i34, d35, i36, i37, d38, (b39 || true), (ap ((l40.drop n22).take n23) [(assertD 120 (di 0) (ix d24.elems i26.toNat))])⟩) none) (cond (isT 107 (ix d24.elems i26.toNat)) (rec ⟨i21, n22, n23, d24, i25, (ad .i64 i26 1), i27, i28, s29, i30, i31, d32, i33, i34, (assertD 107 (dS (bs [])) (ix d24.elems i26.toNat)), i36, i37, d38, b39, l40⟩) (cond (isT 121 (ix d24.elems i26.toNat)) (rec ⟨i21, n22, n23, d24, i25, (ad .i64 i26 1), i27, i28, s29, i30, i31, d32, i33, i34, d35, i36, i37, (assertD 121 (da (rp 32 (D.int .u8 0))) (ix d24.elems i26.toNat)), b39, l40⟩) (rec ⟨i21, n22, n23, d24, i25, (ad .i64 i26 1), i27, i28, s29, i30, i31, d32, i33, i34, d35, i36, i37, d38, b39, l40⟩)))) none) (K (.e0 i21 n22 n23 d24 i25 i26 i27 i28 s29 i30 i31 d32 i33 i34 d35 i36 i37 d38 b39 l40)))
def of4 : List Leaf → Option S4
  | [.i i21, .n n22, .n n23, .d d24, .i i25, .i i26, .i i27, .i i28, .s s29, .i i30, .i i31, .d d32, .i i33, .i i34, .d d35, .i i36, .i i37, .d d38, .b b39, .l l40] => some ⟨i21, n22, n23, d24, i25, i26, i27, i28, s29, i30, i31, d32, i33, i34, d35, i36, i37, d38, b39, l40⟩
  | _ => none
def ex4 (k : Kont) : X4 → Option D
  | .e0 i21 n22 n23 d24 i25 i26 i27 i28 s29 i30 i31 d32 i33 i34 d35 i36 i37 d38 b39 l40 => k (.exit 0) ((.d (.int .i64) (di i21)) :: (us 3 ((.ptr 0 [] (.struct [34, 3, 9, 3, 3, 36])) :: ((.ptr 1 [] (.struct [34, 3, 9, 3, 3, 36])) :: ((.sref 2 n22 n23) :: (us 7 ((.d (.slice 106) d24) :: ((.d (.int .i64) (di i25)) :: ((.d (.int .i64) (di i26)) :: ((.d .bool (db (ltI i26 i25))) :: (us 56 []))))))))))) [(.var (.struct [34, 3, 9, 3, 3, 36]) (.d (.struct [34, 3, 9, 3, 3, 36]) (da [(di i27), (di i28), (dS s29), (di i30), (di i31), d32]))), (.var (.struct [34, 3, 9, 3, 3, 36]) (.d (.struct [34, 3, 9, 3, 3, 36]) (da [(di i33), (di i34), d35, (di i36), (di i37), d38]))), (.row 3 true b39 l40)]
def s (M : Nat) (p0 : Int) (p1 : D) : Option D :=
  (goS (st4 M) M ⟨p0, 0, 0, p1, (nI p1.elems.length), 0, 0, 0, (bs []), 0, 0, (da (rp 32 (D.int .u8 0))), p0, 0, (dS (bs [])), 0, 0, (da (rp 32 (D.int .u8 0))), false, []⟩ fun x => match x with | .e0 i21 n22 n23 d24 i25 i26 i27 i28 s29 i30 i31 d32 i33 i34 d35 i36 i37 d38 b39 l40 => (cond (eqI i21 7) (cond (inb 0 n23) (some (da [(di i33), (di i34), d35, (ix l40 (n22 + 0)), (di i37), d38])) none) (cond (eqI i21 1) (cond (inb 1 n23) (cond (inb 0 n23) (some (da [(di i33), (ix l40 (n22 + 0)), d35, (di i36), (ix l40 (n22 + 1)), d38])) none) none) (cond (eqI i21 2) (cond (inb 1 n23) (cond (inb 2 n23) (cond (inb 0 n23) (some (da [(di i33), (ix l40 (n22 + 0)), d35, (ix l40 (n22 + 1)), (ix l40 (n22 + 2)), d38])) none) none) none) (cond (eqI i21 3) (cond (inb 1 n23) (cond (inb 0 n23) (some (da [(di i33), (ix l40 (n22 + 0)), d35, (ix l40 (n22 + 1)), (di i37), d38])) none) none) (cond (inb 0 n23) (some (da [(di i33), (ix l40 (n22 + 0)), d35, (di i36), (di i37), d38])) none))))))
def c : Con := { run := fun ds => match ds with | [p0, p1] => s FUEL p0.i p1 | _ => none, fresh := false, plain := true }
end F48
namespace F78
def cons : List (Nat × Con) := []
def exts : List (Nat × Ext) := []
def h : List (Nat × Nat × Hint) := []
noncomputable def e (M : Nat) : Env := env cons exts h M
noncomputable def t78_0 (_ : Nat) : List Ent := []
theorem t78_0_ok (M : Nat) : AllOk (e M) (tblOf (t78_0 M)) := AllOk.nil
def s (M : Nat) (p0 : Int) : Option D :=
  (cond (ltI p0 32) (some (db true)) (cond (eqI p0 47) (some (db true)) (cond (leI 127 p0) (cond (leI p0 159) (some (db true)) (some (db (eqI p0 65533)))) (some (db (eqI p0 65533))))))
theorem run (M : Nat) (p0 : Int) : callS (e M) (tblOf (t78_0 M)) 12 (.fn 78) [.d (.int .i32) (D.int .i32 p0)] [] (fun v H => finish ty [4] v H) = s M p0 := by kernel_rfl
noncomputable abbrev t (M : Nat) : List Ent := t78_0 M
theorem t_ok (M : Nat) : AllOk (e M) (tblOf (t M)) := t78_0_ok M
def c : Con := { run := fun ds => match ds with | [p0] => s FUEL p0.i | _ => none, fresh := false, plain := true }
theorem fun_at : Tryd.prog.funcs[78]? = some Tryd.f78 := by kernel_rfl
theorem params : Tryd.f78.params.toList.map ty = [(.int .i32)] := by kernel_rfl
theorem results : Tryd.f78.resultTypes.toList = [4] := by kernel_rfl
theorem flat : Tryd.f78.resultTypes.toList.all (fun t => K.flat ty 20 (ty t)) = true := by kernel_rfl
theorem ok : ConOk (78, c) := by
  intro fn hfn
  obtain rfl : Tryd.f78 = fn := Option.some.inj (fun_at.symm.trans hfn)
  refine contract_flat (n := 20) hgl (fun _ => flat) (fun ds r hh0 hr => ?_)
  rw [params] at hh0
  obtain ⟨p0, ds0, rfl, h0, hh1⟩ := hass_cons hh0
  obtain ⟨p0, rfl⟩ := has_int h0
  obtain rfl := hass_nil hh1
  refine ⟨e FUEL, DEPTH, tblOf (t FUEL), envOk allNil allNil, rfl, t_ok FUEL, ?_⟩
  rw [params, results]
  exact (run FUEL p0).trans hr
end F78
namespace F79
def cons : List (Nat × Con) := []
def exts : List (Nat × Ext) := []
def h : List (Nat × Nat × Hint) := [(79, 3, { live := [3, 5], rows := [], own := false, inpl := false })]
noncomputable def e (M : Nat) : Env := env cons exts h M
noncomputable def t79_0 (_ : Nat) : List Ent := []
theorem t79_0_ok (M : Nat) : AllOk (e M) (tblOf (t79_0 M)) := AllOk.nil
structure S3 where
  i1 : Int
  s2 : ByteArray
  n3 : Nat
inductive X3 where
  | e0 (i1 : Int) (s2 : ByteArray) (n3 : Nat)
def st3 (M : Nat) : S3 → (S3 → Option D) → (X3 → Option D) → Option D
  | ⟨i1, s2, n3⟩, rec, K => (cond (decide (n3 < s2.size)) (rec ⟨(ad .i64 i1 1), s2, (n3 + (Utf8.decode s2 n3).2)⟩) (K (.e0 i1 s2 n3)))
def lv3 : S3 → List Leaf
  | ⟨i1, s2, n3⟩ => [.i i1, .s s2, .n n3]
def of3 : List Leaf → Option S3
  | [.i i1, .s s2, .n n3] => some ⟨i1, s2, n3⟩
  | _ => none
def ex3 (k : Kont) : X3 → Option D
  | .e0 i1 s2 n3 => k (.exit 0) (us 3 ((.d (.int .i64) (di i1)) :: (us 1 ((.iter 0) :: ((.tup [(.d .bool (db false))]) :: ((.d .bool (db false)) :: (us 3 []))))))) [(.iter s2 n3)]
def ps3 : List PV := (up 3 ((.d (.int .i64) (.int .i64)) :: (up 1 ((.iter 0) :: (up 5 [])))))
def qs3 : List PO := [.iter]
noncomputable def sum3 (M : Nat) : Sum := sumS [3, 5] ps3 qs3 [] of3 (st3 M) ex3 M
theorem sok3 (M : Nat) : SumOk (loopRd (e M) 79 3) (e M) (call (e M) 11) 79 0 (loopAt (e M) 79 3) (sum3 M) :=
  sumOk_st (T := tblOf (t79_0 M)) (n0 := 1) (lv := lv3) (t79_0_ok M) (by kernel_rfl) rfl (by intro ls s h; unfold of3 at h; (repeat' split at h) <;> simp at h; subst h; rfl) (by intro s; kernel_rfl) (by intro s; kernel_rfl) (by intro s nx k; kernel_rfl)
noncomputable def t79_1 (M : Nat) : List Ent := ⟨79, 11, 0, 3, sum3 M⟩ :: t79_0 M
theorem t79_1_ok (M : Nat) : AllOk (e M) (tblOf (t79_1 M)) := (t79_0_ok M).add ⟨79, 11, 0, 3, sum3 M⟩ (by kernel_rfl) (sok3 M)
def s (M : Nat) (p0 : ByteArray) : Option D :=
  (goS (st3 M) M ⟨0, p0, 0⟩ fun x => match x with | .e0 i1 s2 n3 => (some (di i1)))
theorem run (M : Nat) (p0 : ByteArray) : callS (e M) (tblOf (t79_1 M)) 12 (.fn 79) [.d .str (dS p0)] [] (fun v H => finish ty [3] v H) = s M p0 := by kernel_rfl
noncomputable abbrev t (M : Nat) : List Ent := t79_1 M
theorem t_ok (M : Nat) : AllOk (e M) (tblOf (t M)) := t79_1_ok M
def c : Con := { run := fun ds => match ds with | [p0] => s FUEL p0.s | _ => none, fresh := false, plain := true }
theorem fun_at : Tryd.prog.funcs[79]? = some Tryd.f79 := by kernel_rfl
theorem params : Tryd.f79.params.toList.map ty = [.str] := by kernel_rfl
theorem results : Tryd.f79.resultTypes.toList = [3] := by kernel_rfl
theorem flat : Tryd.f79.resultTypes.toList.all (fun t => K.flat ty 20 (ty t)) = true := by kernel_rfl
theorem ok : ConOk (79, c) := by
  intro fn hfn
  obtain rfl : Tryd.f79 = fn := Option.some.inj (fun_at.symm.trans hfn)
  refine contract_flat (n := 20) hgl (fun _ => flat) (fun ds r hh0 hr => ?_)
  rw [params] at hh0
  obtain ⟨p0, ds0, rfl, h0, hh1⟩ := hass_cons hh0
  obtain ⟨p0, rfl⟩ := has_str h0
  obtain rfl := hass_nil hh1
  refine ⟨e FUEL, DEPTH, tblOf (t FUEL), envOk allNil allNil, rfl, t_ok FUEL, ?_⟩
  rw [params, results]
  exact (run FUEL p0).trans hr
end F79
namespace F49
def cons : List (Nat × Con) := [(78, F78.c), (79, F79.c)]
def exts : List (Nat × Ext) := []
def h : List (Nat × Nat × Hint) := [(103, 2, { live := [1, 2, 10], rows := [], own := false, inpl := false })]
noncomputable def e (M : Nat) : Env := env cons exts h M
noncomputable def t49_0 (_ : Nat) : List Ent := []
theorem t49_0_ok (M : Nat) : AllOk (e M) (tblOf (t49_0 M)) := AllOk.nil
structure S103_2 where
  b2 : Bool
  s3 : ByteArray
  n4 : Nat
inductive X103_2 where
  | e0 (b2 : Bool) (s3 : ByteArray) (n4 : Nat) (r5 : D) (r6 : D)
  | e1 (b2 : Bool) (s3 : ByteArray) (n4 : Nat)
def st103_2 (M : Nat) : S103_2 → (S103_2 → Option D) → (X103_2 → Option D) → Option D
  | ⟨b2, s3, n4⟩, rec, K => (cond (decide (n4 < s3.size)) (bd (F78.s FUEL ((Utf8.decode s3 n4).1 : Int)) fun r5 => (bd (match D.eqv ty eqDepth r5 (db b2) .bool with | some z => some (.bool z) | none => none) fun r6 => (cond r6.b (K (.e0 b2 s3 n4 r5 r6)) (rec ⟨b2, s3, (n4 + (Utf8.decode s3 n4).2)⟩)))) (K (.e1 b2 s3 n4)))
def lv103_2 : S103_2 → List Leaf
  | ⟨b2, s3, n4⟩ => [.b b2, .s s3, .n n4]
def of103_2 : List Leaf → Option S103_2
  | [.b b2, .s s3, .n n4] => some ⟨b2, s3, n4⟩
  | _ => none
def ex103_2 (k : Kont) : X103_2 → Option D
  | .e0 b2 s3 n4 r5 r6 => k .ret (us 1 ((.d .func (D.fn 78)) :: ((.d .bool (db b2)) :: (us 3 ((.d (.int .i64) (di (nI n4))) :: ((.d (.int .i64) (di (nI n4))) :: ((.d (.int .i32) (D.int .i32 ((Utf8.decode s3 n4).1 : Int))) :: (us 1 ((.iter 0) :: ((.tup [(.d .bool (db true)), (.d (.int .i64) (di (nI n4))), (.d (.int .i32) (D.int .i32 ((Utf8.decode s3 n4).1 : Int)))]) :: ((.d .bool (db true)) :: ((.d (.int .i64) (di (nI n4))) :: ((.d (.int .i32) (D.int .i32 ((Utf8.decode s3 n4).1 : Int))) :: ((.d .func (D.fn 78)) :: ((.d (.int .i32) (D.int .i32 ((Utf8.decode s3 n4).1 : Int))) :: ((.d .bool r5) :: ((.d .bool (db b2)) :: ((.d .bool r6) :: ((.d (.int .i64) (di (nI n4))) :: []))))))))))))))))))) [(.iter s3 (n4 + (Utf8.decode s3 n4).2))]
  | .e1 b2 s3 n4 => k (.exit 0) (us 1 ((.d .func (D.fn 78)) :: ((.d .bool (db b2)) :: (us 7 ((.iter 0) :: ((.tup [(.d .bool (db false))]) :: ((.d .bool (db false)) :: (us 8 [])))))))) [(.iter s3 n4)]
def ps103_2 : List PV := (up 1 ((.d .func (.fn 78)) :: ((.d .bool .bool) :: (up 7 ((.iter 0) :: (up 10 []))))))
def qs103_2 : List PO := [.iter]
noncomputable def sum103_2 (M : Nat) : Sum := sumS [1, 2, 10] ps103_2 qs103_2 [] of103_2 (st103_2 M) ex103_2 M
theorem sok103_2 (M : Nat) : SumOk (loopRd (e M) 103 2) (e M) (call (e M) 9) 103 0 (loopAt (e M) 103 2) (sum103_2 M) :=
  sumOk_st (T := tblOf (t49_0 M)) (n0 := 1) (lv := lv103_2) (t49_0_ok M) (by kernel_rfl) rfl (by intro ls s h; unfold of103_2 at h; (repeat' split at h) <;> simp at h; subst h; rfl) (by intro s; kernel_rfl) (by intro s; kernel_rfl) (by intro s nx k; kernel_rfl)
noncomputable def t49_1 (M : Nat) : List Ent := ⟨103, 9, 0, 2, sum103_2 M⟩ :: t49_0 M
theorem t49_1_ok (M : Nat) : AllOk (e M) (tblOf (t49_1 M)) := (t49_0_ok M).add ⟨103, 9, 0, 2, sum103_2 M⟩ (by kernel_rfl) (sok103_2 M)
def s (M : Nat) (p0 : ByteArray) : Option D :=
  (bd (F79.s FUEL p0) fun r1 => (cond (gtI r1.i 0) (cond (leI r1.i 24) (goS (st103_2 M) M ⟨true, p0, 0⟩ fun x => match x with | .e0 b2 s3 n4 r5 r6 => (cond (ltI (nI n4) 0) (cond (inb 0 p0.size) (cond (neI (byteAt p0 0) 32) (cond (inb (sb .i64 (nI p0.size) 1) p0.size) (some (db (neI (byteAt p0 (sb .i64 (nI p0.size) 1).toNat) 32))) none) (some (db false))) none) (some (db false))) | .e1 b2 s3 n4 => (cond (inb 0 p0.size) (cond (neI (byteAt p0 0) 32) (cond (inb (sb .i64 (nI p0.size) 1) p0.size) (some (db (neI (byteAt p0 (sb .i64 (nI p0.size) 1).toNat) 32))) none) (some (db false))) none)) (some (db false))) (some (db false))))
theorem run (M : Nat) (p0 : ByteArray) : callS (e M) (tblOf (t49_1 M)) 12 (.fn 49) [.d .str (dS p0)] [] (fun v H => finish ty [4] v H) = s M p0 := by kernel_rfl
noncomputable abbrev t (M : Nat) : List Ent := t49_1 M
theorem t_ok (M : Nat) : AllOk (e M) (tblOf (t M)) := t49_1_ok M
def c : Con := { run := fun ds => match ds with | [p0] => s FUEL p0.s | _ => none, fresh := false, plain := true }
theorem fun_at : Tryd.prog.funcs[49]? = some Tryd.f49 := by kernel_rfl
theorem params : Tryd.f49.params.toList.map ty = [.str] := by kernel_rfl
theorem results : Tryd.f49.resultTypes.toList = [4] := by kernel_rfl
theorem flat : Tryd.f49.resultTypes.toList.all (fun t => K.flat ty 20 (ty t)) = true := by kernel_rfl
theorem ok : ConOk (49, c) := by
  intro fn hfn
  obtain rfl : Tryd.f49 = fn := Option.some.inj (fun_at.symm.trans hfn)
  refine contract_flat (n := 20) hgl (fun _ => flat) (fun ds r hh0 hr => ?_)
  rw [params] at hh0
  obtain ⟨p0, ds0, rfl, h0, hh1⟩ := hass_cons hh0
  obtain ⟨p0, rfl⟩ := has_str h0
  obtain rfl := hass_nil hh1
  refine ⟨e FUEL, DEPTH, tblOf (t FUEL), envOk (allCons F78.ok (allCons F79.ok allNil)) allNil, rfl, t_ok FUEL, ?_⟩
  rw [params, results]
  exact (run FUEL p0).trans hr
end F49
namespace F50
def s (M : Nat) (p0 : Int) (p1 : Int) (p2 : Int) : Option D :=
  (cond (leI p1 p0) (some (db (leI p0 p2))) (some (db false)))
def c : Con := { run := fun ds => match ds with | [p0, p1, p2] => s FUEL p0.i p1.i p2.i | _ => none, fresh := false, plain := true }
end F50
namespace F28
end F28
namespace F34
end F34
namespace F83
def cons : List (Nat × Con) := []
def exts : List (Nat × Ext) := []
def h : List (Nat × Nat × Hint) := []
noncomputable def e (M : Nat) : Env := env cons exts h M
noncomputable def t83_0 (_ : Nat) : List Ent := []
theorem t83_0_ok (M : Nat) : AllOk (e M) (tblOf (t83_0 M)) := AllOk.nil
def s (M : Nat) (p0 : Int) : Option D :=
  (cond (geI p0 0) (some (db (leI p0 1099511627776))) (some (db false)))
theorem run (M : Nat) (p0 : Int) : callS (e M) (tblOf (t83_0 M)) 12 (.fn 83) [.d (.int .i64) (di p0)] [] (fun v H => finish ty [4] v H) = s M p0 := by kernel_rfl
noncomputable abbrev t (M : Nat) : List Ent := t83_0 M
theorem t_ok (M : Nat) : AllOk (e M) (tblOf (t M)) := t83_0_ok M
def c : Con := { run := fun ds => match ds with | [p0] => s FUEL p0.i | _ => none, fresh := false, plain := true }
theorem fun_at : Tryd.prog.funcs[83]? = some Tryd.f83 := by kernel_rfl
theorem params : Tryd.f83.params.toList.map ty = [(.int .i64)] := by kernel_rfl
theorem results : Tryd.f83.resultTypes.toList = [4] := by kernel_rfl
theorem flat : Tryd.f83.resultTypes.toList.all (fun t => K.flat ty 20 (ty t)) = true := by kernel_rfl
theorem ok : ConOk (83, c) := by
  intro fn hfn
  obtain rfl : Tryd.f83 = fn := Option.some.inj (fun_at.symm.trans hfn)
  refine contract_flat (n := 20) hgl (fun _ => flat) (fun ds r hh0 hr => ?_)
  rw [params] at hh0
  obtain ⟨p0, ds0, rfl, h0, hh1⟩ := hass_cons hh0
  obtain ⟨p0, rfl⟩ := has_int h0
  obtain rfl := hass_nil hh1
  refine ⟨e FUEL, DEPTH, tblOf (t FUEL), envOk allNil allNil, rfl, t_ok FUEL, ?_⟩
  rw [params, results]
  exact (run FUEL p0).trans hr
end F83
namespace F58
def cons : List (Nat × Con) := [(83, F83.c)]
def exts : List (Nat × Ext) := []
def h : List (Nat × Nat × Hint) := []
noncomputable def e (M : Nat) : Env := env cons exts h M
noncomputable def t58_0 (_ : Nat) : List Ent := []
theorem t58_0_ok (M : Nat) : AllOk (e M) (tblOf (t58_0 M)) := AllOk.nil
def s (M : Nat) (p0 : D) (p1 : Int) : Option D :=
  (cond (p0.at 3).b (some (D.tup [p0, (di 5)])) (bd (F83.s FUEL p1) fun r1 => (cond (!r1.b) (some (D.tup [p0, (di 1)])) (some (D.tup [(D.agg ((D.agg (p0.parts.set 3 (db true))).parts.set 4 (di p1))), (di 0)])))))
theorem run (M : Nat) (p0 : D) (p1 : Int) : callS (e M) (tblOf (t58_0 M)) 12 (.fn 58) [.d (.struct [3, 9, 9, 4, 3, 40]) p0, .d (.int .i64) (di p1)] [] (fun v H => finish ty [42, 28] v H) = s M p0 p1 := by kernel_rfl
noncomputable abbrev t (M : Nat) : List Ent := t58_0 M
theorem t_ok (M : Nat) : AllOk (e M) (tblOf (t M)) := t58_0_ok M
def c : Con := { run := fun ds => match ds with | [p0, p1] => s FUEL p0 p1.i | _ => none, fresh := false, plain := false }
theorem fun_at : Tryd.prog.funcs[58]? = some Tryd.f58 := by kernel_rfl
theorem params : Tryd.f58.params.toList.map ty = [(.struct [3, 9, 9, 4, 3, 40]), (.int .i64)] := by kernel_rfl
theorem results : Tryd.f58.resultTypes.toList = [42, 28] := by kernel_rfl
theorem ok : ConOk (58, c) := by
  intro fn hfn
  obtain rfl : Tryd.f58 = fn := Option.some.inj (fun_at.symm.trans hfn)
  refine contract_flat (n := 20) hgl (fun h => by simp at h) (fun ds r hh0 hr => ?_)
  rw [params] at hh0
  obtain ⟨p0, ds0, rfl, h0, hh1⟩ := hass_cons hh0
  obtain ⟨p1, ds1, rfl, h1, hh2⟩ := hass_cons hh1
  obtain ⟨p1, rfl⟩ := has_int h1
  obtain rfl := hass_nil hh2
  refine ⟨e FUEL, DEPTH, tblOf (t FUEL), envOk (allCons F83.ok allNil) allNil, rfl, t_ok FUEL, ?_⟩
  rw [params, results]
  exact (run FUEL p0 p1).trans hr
end F58
namespace F61
def cons : List (Nat × Con) := [(83, F83.c)]
def exts : List (Nat × Ext) := []
def h : List (Nat × Nat × Hint) := []
noncomputable def e (M : Nat) : Env := env cons exts h M
noncomputable def t61_0 (_ : Nat) : List Ent := []
theorem t61_0_ok (M : Nat) : AllOk (e M) (tblOf (t61_0 M)) := AllOk.nil
def s (M : Nat) (p0 : D) (p1 : Int) : Option D :=
  (cond (!(p0.at 3).b) (some (D.tup [p0, (di 6)])) (bd (F83.s FUEL p1) fun r1 => (cond (!r1.b) (some (D.tup [p0, (di 1)])) (cond (ltI p1 (p0.at 4).i) (some (D.tup [p0, (di 7)])) (some (D.tup [(D.agg (p0.parts.set 4 (di p1))), (di 0)]))))))
theorem run (M : Nat) (p0 : D) (p1 : Int) : callS (e M) (tblOf (t61_0 M)) 12 (.fn 61) [.d (.struct [3, 9, 9, 4, 3, 40]) p0, .d (.int .i64) (di p1)] [] (fun v H => finish ty [42, 28] v H) = s M p0 p1 := by kernel_rfl
noncomputable abbrev t (M : Nat) : List Ent := t61_0 M
theorem t_ok (M : Nat) : AllOk (e M) (tblOf (t M)) := t61_0_ok M
def c : Con := { run := fun ds => match ds with | [p0, p1] => s FUEL p0 p1.i | _ => none, fresh := false, plain := false }
theorem fun_at : Tryd.prog.funcs[61]? = some Tryd.f61 := by kernel_rfl
theorem params : Tryd.f61.params.toList.map ty = [(.struct [3, 9, 9, 4, 3, 40]), (.int .i64)] := by kernel_rfl
theorem results : Tryd.f61.resultTypes.toList = [42, 28] := by kernel_rfl
theorem ok : ConOk (61, c) := by
  intro fn hfn
  obtain rfl : Tryd.f61 = fn := Option.some.inj (fun_at.symm.trans hfn)
  refine contract_flat (n := 20) hgl (fun h => by simp at h) (fun ds r hh0 hr => ?_)
  rw [params] at hh0
  obtain ⟨p0, ds0, rfl, h0, hh1⟩ := hass_cons hh0
  obtain ⟨p1, ds1, rfl, h1, hh2⟩ := hass_cons hh1
  obtain ⟨p1, rfl⟩ := has_int h1
  obtain rfl := hass_nil hh2
  refine ⟨e FUEL, DEPTH, tblOf (t FUEL), envOk (allCons F83.ok allNil) allNil, rfl, t_ok FUEL, ?_⟩
  rw [params, results]
  exact (run FUEL p0 p1).trans hr
end F61
namespace F89
def cons : List (Nat × Con) := []
def exts : List (Nat × Ext) := []
def h : List (Nat × Nat × Hint) := [(89, 2, { live := [0, 1, 7, 8], rows := [], own := false, inpl := false })]
noncomputable def e (M : Nat) : Env := env cons exts h M
noncomputable def t89_0 (_ : Nat) : List Ent := []
theorem t89_0_ok (M : Nat) : AllOk (e M) (tblOf (t89_0 M)) := AllOk.nil
structure S2 where
  d1 : D
  s2 : ByteArray
  i3 : Int
  i4 : Int
inductive X2 where
  | e0 (d1 : D) (s2 : ByteArray) (i3 : Int) (i4 : Int)
  | e1 (d1 : D) (s2 : ByteArray) (i3 : Int) (i4 : Int)
def st2 (M : Nat) : S2 → (S2 → Option D) → (X2 → Option D) → Option D
  | ⟨d1, s2, i3, i4⟩, rec, K => (cond (ltI i4 i3) (cond (inb i4 d1.elems.length) (cond (eqS s2 (ix d1.elems i4.toNat).s) (K (.e0 d1 s2 i3 i4)) (rec ⟨d1, s2, i3, (ad .i64 i4 1)⟩)) none) (K (.e1 d1 s2 i3 i4)))
def lv2 : S2 → List Leaf
  | ⟨d1, s2, i3, i4⟩ => [.d d1, .s s2, .i i3, .i i4]
def of2 : List Leaf → Option S2
  | [.d d1, .s s2, .i i3, .i i4] => some ⟨d1, s2, i3, i4⟩
  | _ => none
def ex2 (k : Kont) : X2 → Option D
  | .e0 d1 s2 i3 i4 => k .ret ((.d (.slice 9) d1) :: ((.d .str (dS s2)) :: (us 2 ((.d (.int .i64) (di i4)) :: ((.d (.int .i64) (di i4)) :: (us 1 ((.d (.int .i64) (di i3)) :: ((.d (.int .i64) (di i4)) :: ((.d .bool (db (ltI i4 i3))) :: ((.d (.int .i64) (di i4)) :: ((.d .str (dS s2)) :: ((.d (.slice 9) d1) :: ((.d (.int .i64) (di i4)) :: ((.cptr .str (ix d1.elems i4.toNat)) :: ((.d .str (ix d1.elems i4.toNat)) :: ((.d .bool (db (eqS s2 (ix d1.elems i4.toNat).s))) :: ((.d (.int .i64) (di i4)) :: (us 1 [])))))))))))))))))) []
  | .e1 d1 s2 i3 i4 => k (.exit 0) ((.d (.slice 9) d1) :: ((.d .str (dS s2)) :: (us 5 ((.d (.int .i64) (di i3)) :: ((.d (.int .i64) (di i4)) :: ((.d .bool (db (ltI i4 i3))) :: (us 9 []))))))) []
def ps2 : List PV := ((.d (.slice 9) .x) :: ((.d .str .str) :: (up 5 ((.d (.int .i64) (.int .i64)) :: ((.d (.int .i64) (.int .i64)) :: (up 10 []))))))
def qs2 : List PO := []
noncomputable def sum2 (M : Nat) : Sum := sumS [0, 1, 7, 8] ps2 qs2 [] of2 (st2 M) ex2 M
theorem sok2 (M : Nat) : SumOk (loopRd (e M) 89 2) (e M) (call (e M) 11) 89 0 (loopAt (e M) 89 2) (sum2 M) :=
  sumOk_st (T := tblOf (t89_0 M)) (n0 := 0) (lv := lv2) (t89_0_ok M) (by kernel_rfl) rfl (by intro ls s h; unfold of2 at h; (repeat' split at h) <;> simp at h; subst h; rfl) (by intro s; kernel_rfl) (by intro s; kernel_rfl) (by intro s nx k; kernel_rfl)
noncomputable def t89_1 (M : Nat) : List Ent := ⟨89, 11, 0, 2, sum2 M⟩ :: t89_0 M
theorem t89_1_ok (M : Nat) : AllOk (e M) (tblOf (t89_1 M)) := (t89_0_ok M).add ⟨89, 11, 0, 2, sum2 M⟩ (by kernel_rfl) (sok2 M)
def s (M : Nat) (p0 : D) (p1 : ByteArray) : Option D :=
  (goS (st2 M) M ⟨p0, p1, (nI p0.elems.length), 0⟩ fun x => match x with | .e0 d1 s2 i3 i4 => (some (di i4)) | .e1 d1 s2 i3 i4 => (some (di (-1))))
theorem run (M : Nat) (p0 : D) (p1 : ByteArray) : callS (e M) (tblOf (t89_1 M)) 12 (.fn 89) [.d (.slice 9) p0, .d .str (dS p1)] [] (fun v H => finish ty [3] v H) = s M p0 p1 := by kernel_rfl
noncomputable abbrev t (M : Nat) : List Ent := t89_1 M
theorem t_ok (M : Nat) : AllOk (e M) (tblOf (t M)) := t89_1_ok M
def c : Con := { run := fun ds => match ds with | [p0, p1] => s FUEL p0 p1.s | _ => none, fresh := false, plain := true }
theorem fun_at : Tryd.prog.funcs[89]? = some Tryd.f89 := by kernel_rfl
theorem params : Tryd.f89.params.toList.map ty = [(.slice 9), .str] := by kernel_rfl
theorem results : Tryd.f89.resultTypes.toList = [3] := by kernel_rfl
theorem flat : Tryd.f89.resultTypes.toList.all (fun t => K.flat ty 20 (ty t)) = true := by kernel_rfl
theorem ok : ConOk (89, c) := by
  intro fn hfn
  obtain rfl : Tryd.f89 = fn := Option.some.inj (fun_at.symm.trans hfn)
  refine contract_flat (n := 20) hgl (fun _ => flat) (fun ds r hh0 hr => ?_)
  rw [params] at hh0
  obtain ⟨p0, ds0, rfl, h0, hh1⟩ := hass_cons hh0
  obtain ⟨p1, ds1, rfl, h1, hh2⟩ := hass_cons hh1
  obtain ⟨p1, rfl⟩ := has_str h1
  obtain rfl := hass_nil hh2
  refine ⟨e FUEL, DEPTH, tblOf (t FUEL), envOk allNil allNil, rfl, t_ok FUEL, ?_⟩
  rw [params, results]
  exact (run FUEL p0 p1).trans hr
end F89
namespace F84
def cons : List (Nat × Con) := [(89, F89.c)]
def exts : List (Nat × Ext) := []
def h : List (Nat × Nat × Hint) := []
noncomputable def e (M : Nat) : Env := env cons exts h M
noncomputable def t84_0 (_ : Nat) : List Ent := []
theorem t84_0_ok (M : Nat) : AllOk (e M) (tblOf (t84_0 M)) := AllOk.nil
def s (M : Nat) (p0 : D) (p1 : ByteArray) : Option D :=
  (bd (F89.s FUEL p0 p1) fun r1 => (some (db (geI r1.i 0))))
theorem run (M : Nat) (p0 : D) (p1 : ByteArray) : callS (e M) (tblOf (t84_0 M)) 12 (.fn 84) [.d (.slice 9) p0, .d .str (dS p1)] [] (fun v H => finish ty [4] v H) = s M p0 p1 := by kernel_rfl
noncomputable abbrev t (M : Nat) : List Ent := t84_0 M
theorem t_ok (M : Nat) : AllOk (e M) (tblOf (t M)) := t84_0_ok M
def c : Con := { run := fun ds => match ds with | [p0, p1] => s FUEL p0 p1.s | _ => none, fresh := false, plain := true }
theorem fun_at : Tryd.prog.funcs[84]? = some Tryd.f84 := by kernel_rfl
theorem params : Tryd.f84.params.toList.map ty = [(.slice 9), .str] := by kernel_rfl
theorem results : Tryd.f84.resultTypes.toList = [4] := by kernel_rfl
theorem flat : Tryd.f84.resultTypes.toList.all (fun t => K.flat ty 20 (ty t)) = true := by kernel_rfl
theorem ok : ConOk (84, c) := by
  intro fn hfn
  obtain rfl : Tryd.f84 = fn := Option.some.inj (fun_at.symm.trans hfn)
  refine contract_flat (n := 20) hgl (fun _ => flat) (fun ds r hh0 hr => ?_)
  rw [params] at hh0
  obtain ⟨p0, ds0, rfl, h0, hh1⟩ := hass_cons hh0
  obtain ⟨p1, ds1, rfl, h1, hh2⟩ := hass_cons hh1
  obtain ⟨p1, rfl⟩ := has_str h1
  obtain rfl := hass_nil hh2
  refine ⟨e FUEL, DEPTH, tblOf (t FUEL), envOk (allCons F89.ok allNil) allNil, rfl, t_ok FUEL, ?_⟩
  rw [params, results]
  exact (run FUEL p0 p1).trans hr
end F84
namespace F109
def cons : List (Nat × Con) := [(115, decodeC)]
def exts : List (Nat × Ext) := []
def h : List (Nat × Nat × Hint) := []
noncomputable def e (M : Nat) : Env := env cons exts h M
noncomputable def t109_0 (_ : Nat) : List Ent := []
theorem t109_0_ok (M : Nat) : AllOk (e M) (tblOf (t109_0 M)) := AllOk.nil
def s (M : Nat) (p0 : ByteArray) (p1 : Int) (p2 : Int) : Option D :=
  (cond (neI p2 65533) (some (db false)) (cond ((leI 0 p1) && (leI p1 (nI p0.size)) && (leI (nI p0.size) (nI p0.size)) && (leI (nI p0.size) (nI p0.size))) (some (db (ltI ((Lib.decodeGo (p0.extract p1.toNat p0.size)).2 : Int) 2))) none))
theorem run (M : Nat) (p0 : ByteArray) (p1 : Int) (p2 : Int) : callS (e M) (tblOf (t109_0 M)) 12 (.fn 109) [.d .str (dS p0), .d (.int .i64) (di p1), .d (.int .i32) (D.int .i32 p2)] [] (fun v H => finish ty [4] v H) = s M p0 p1 p2 := by kernel_rfl
noncomputable abbrev t (M : Nat) : List Ent := t109_0 M
theorem t_ok (M : Nat) : AllOk (e M) (tblOf (t M)) := t109_0_ok M
def c : Con := { run := fun ds => match ds with | [p0, p1, p2] => s FUEL p0.s p1.i p2.i | _ => none, fresh := false, plain := true }
theorem fun_at : Tryd.prog.funcs[109]? = some Tryd.f109 := by kernel_rfl
theorem params : Tryd.f109.params.toList.map ty = [.str, (.int .i64), (.int .i32)] := by kernel_rfl
theorem results : Tryd.f109.resultTypes.toList = [4] := by kernel_rfl
theorem flat : Tryd.f109.resultTypes.toList.all (fun t => K.flat ty 20 (ty t)) = true := by kernel_rfl
theorem ok : ConOk (109, c) := by
  intro fn hfn
  obtain rfl : Tryd.f109 = fn := Option.some.inj (fun_at.symm.trans hfn)
  refine contract_flat (n := 20) hgl (fun _ => flat) (fun ds r hh0 hr => ?_)
  rw [params] at hh0
  obtain ⟨p0, ds0, rfl, h0, hh1⟩ := hass_cons hh0
  obtain ⟨p0, rfl⟩ := has_str h0
  obtain ⟨p1, ds1, rfl, h1, hh2⟩ := hass_cons hh1
  obtain ⟨p1, rfl⟩ := has_int h1
  obtain ⟨p2, ds2, rfl, h2, hh3⟩ := hass_cons hh2
  obtain ⟨p2, rfl⟩ := has_int h2
  obtain rfl := hass_nil hh3
  refine ⟨e FUEL, DEPTH, tblOf (t FUEL), envOk (allCons decode_ok allNil) allNil, rfl, t_ok FUEL, ?_⟩
  rw [params, results]
  exact (run FUEL p0 p1 p2).trans hr
end F109
namespace F102
def cons : List (Nat × Con) := [(109, F109.c)]
def exts : List (Nat × Ext) := []
def h : List (Nat × Nat × Hint) := [(102, 3, { live := [0, 3, 7], rows := [(3, 21)], own := false, inpl := false })]
noncomputable def e (M : Nat) : Env := env cons exts h M
noncomputable def t102_0 (_ : Nat) : List Ent := []
theorem t102_0_ok (M : Nat) : AllOk (e M) (tblOf (t102_0 M)) := AllOk.nil
structure S3 where
  s1 : ByteArray
  n2 : Nat
  n3 : Nat
  s4 : ByteArray
  n5 : Nat
  b6 : Bool
  l7 : (List D)
inductive X3 where
  | e0 (s1 : ByteArray) (n2 : Nat) (n3 : Nat) (s4 : ByteArray) (n5 : Nat) (b6 : Bool) (l7 : (List D))
def st3 (M : Nat) : S3 → (S3 → Option D) → (X3 → Option D) → Option D
  | ⟨s1, n2, n3, s4, n5, b6, l7⟩, rec, K => (cond (decide (n5 < s4.size)) (bd (F109.s FUEL s1 (nI n5) ((Utf8.decode s4 n5).1 : Int)) fun r8 => (cond r8.b (cond (inb (nI n5) s1.size) (cond (mx (n3 + 1)) (rec ⟨s1, 0, (n3 + 1), s4, (n5 + (Utf8.decode s4 n5).2), (b6 || true), (ap ((l7.drop n2).take n3) [(D.int .i32 (ad .i32 1114112 (cv .i32 (byteAt s1 n5))))])⟩) none) none) (cond (mx (n3 + 1)) (rec ⟨s1, 0, (n3 + 1), s4, (n5 + (Utf8.decode s4 n5).2), (b6 || true), (ap ((l7.drop n2).take n3) [(D.int .i32 ((Utf8.decode s4 n5).1 : Int))])⟩) none))) (K (.e0 s1 n2 n3 s4 n5 b6 l7)))
def lv3 : S3 → List Leaf
  | ⟨s1, n2, n3, s4, n5, b6, l7⟩ => [.s s1, .n n2, .n n3, .s s4, .n n5, .b b6, .l l7]
def of3 : List Leaf → Option S3
  | [.s s1, .n n2, .n n3, .s s4, .n n5, .b b6, .l l7] => some ⟨s1, n2, n3, s4, n5, b6, l7⟩
  | _ => none
def ex3 (k : Kont) : X3 → Option D
  | .e0 s1 n2 n3 s4 n5 b6 l7 => k (.exit 0) ((.d .str (dS s1)) :: (us 2 ((.sref 1 n2 n3) :: (us 3 ((.iter 0) :: ((.tup [(.d .bool (db false))]) :: ((.d .bool (db false)) :: (us 16 [])))))))) [(.iter s4 n5), (.row 21 true b6 l7)]
def ps3 : List PV := ((.d .str .str) :: (up 2 ((.sref 1) :: (up 3 ((.iter 0) :: (up 18 []))))))
def qs3 : List PO := [.iter, (.row 21 true)]
noncomputable def sum3 (M : Nat) : Sum := sumS [0, 3, 7] ps3 qs3 [(3, 1)] of3 (st3 M) ex3 M
theorem sok3 (M : Nat) : SumOk (loopRd (e M) 102 3) (e M) (call (e M) 11) 102 0 (loopAt (e M) 102 3) (sum3 M) :=
  sumOk_st (T := tblOf (t102_0 M)) (n0 := 2) (lv := lv3) (t102_0_ok M) (by kernel_rfl) rfl (by intro ls s h; unfold of3 at h; (repeat' split at h) <;> simp at h; subst h; rfl) (by intro s; kernel_rfl) (by intro s; kernel_rfl) (by intro s nx k; kernel_rfl)
noncomputable def t102_1 (M : Nat) : List Ent := ⟨102, 11, 0, 3, sum3 M⟩ :: t102_0 M
theorem t102_1_ok (M : Nat) : AllOk (e M) (tblOf (t102_1 M)) := (t102_0_ok M).add ⟨102, 11, 0, 3, sum3 M⟩ (by kernel_rfl) (sok3 M)
def s (M : Nat) (p0 : ByteArray) : Option D :=
  (goS (st3 M) M ⟨p0, 0, 0, p0, 0, false, []⟩ fun x => match x with | .e0 s1 n2 n3 s4 n5 b6 l7 => (cond ((decide (n3 = l7.length)) && (decide (n2 = 0))) (some (.slice b6 l7)) none))
theorem run (M : Nat) (p0 : ByteArray) : callS (e M) (tblOf (t102_1 M)) 12 (.fn 102) [.d .str (dS p0)] [] (fun v H => finishFresh ty [145] v H) = s M p0 := by kernel_rfl
noncomputable abbrev t (M : Nat) : List Ent := t102_1 M
theorem t_ok (M : Nat) : AllOk (e M) (tblOf (t M)) := t102_1_ok M
def c : Con := { run := fun ds => match ds with | [p0] => s FUEL p0.s | _ => none, fresh := true, plain := false }
theorem fun_at : Tryd.prog.funcs[102]? = some Tryd.f102 := by kernel_rfl
theorem params : Tryd.f102.params.toList.map ty = [.str] := by kernel_rfl
theorem results : Tryd.f102.resultTypes.toList = [145] := by kernel_rfl
theorem ok : ConOk (102, c) := by
  intro fn hfn
  obtain rfl : Tryd.f102 = fn := Option.some.inj (fun_at.symm.trans hfn)
  refine contract_of_fresh hgl rfl rfl (fun ds r hh0 hr => ?_)
  rw [params] at hh0
  obtain ⟨p0, ds0, rfl, h0, hh1⟩ := hass_cons hh0
  obtain ⟨p0, rfl⟩ := has_str h0
  obtain rfl := hass_nil hh1
  refine ⟨e FUEL, DEPTH, tblOf (t FUEL), envOk (allCons F109.ok allNil) allNil, rfl, t_ok FUEL, ?_⟩
  rw [params, results]
  exact (run FUEL p0).trans hr
end F102
namespace F77
def cons : List (Nat × Con) := [(102, F102.c)]
def exts : List (Nat × Ext) := []
def h : List (Nat × Nat × Hint) := [(77, 3, { live := [5, 6, 13, 14, 15], rows := [], own := false, inpl := false })]
noncomputable def e (M : Nat) : Env := env cons exts h M
noncomputable def t77_0 (_ : Nat) : List Ent := []
theorem t77_0_ok (M : Nat) : AllOk (e M) (tblOf (t77_0 M)) := AllOk.nil
structure S3 where
  n3 : Nat
  n4 : Nat
  n5 : Nat
  n6 : Nat
  n7 : Nat
  n8 : Nat
  i9 : Int
  i10 : Int
  b11 : Bool
  l12 : (List D)
  b13 : Bool
  l14 : (List D)
inductive X3 where
  | e0 (n3 : Nat) (n4 : Nat) (n5 : Nat) (n6 : Nat) (n7 : Nat) (n8 : Nat) (i9 : Int) (i10 : Int) (b11 : Bool) (l12 : (List D)) (b13 : Bool) (l14 : (List D))
  | e1 (n3 : Nat) (n4 : Nat) (n5 : Nat) (n6 : Nat) (n7 : Nat) (n8 : Nat) (i9 : Int) (i10 : Int) (b11 : Bool) (l12 : (List D)) (b13 : Bool) (l14 : (List D))
  | e2 (n3 : Nat) (n4 : Nat) (n5 : Nat) (n6 : Nat) (n7 : Nat) (n8 : Nat) (i9 : Int) (i10 : Int) (b11 : Bool) (l12 : (List D)) (b13 : Bool) (l14 : (List D))
def st3 (M : Nat) : S3 → (S3 → Option D) → (X3 → Option D) → Option D
  | ⟨n3, n4, n5, n6, n7, n8, i9, i10, b11, l12, b13, l14⟩, rec, K => (cond (ltI i10 i9) (cond (inb i10 n8) (cond (geI i10 (nI n6)) (K (.e0 n3 n4 n5 n6 n7 n8 i9 i10 b11 l12 b13 l14)) (cond (inb i10 n6) (cond (neI (ix l12 (n7 + i10.toNat)).i (ix l14 (n5 + i10.toNat)).i) (cond (inb i10 n6) (K (.e1 n3 n4 n5 n6 n7 n8 i9 i10 b11 l12 b13 l14)) none) (rec ⟨n3, n4, n5, n6, n7, n8, i9, (ad .i64 i10 1), b11, l12, b13, l14⟩)) none)) none) (K (.e2 n3 n4 n5 n6 n7 n8 i9 i10 b11 l12 b13 l14)))
def lv3 : S3 → List Leaf
  | ⟨n3, n4, n5, n6, n7, n8, i9, i10, b11, l12, b13, l14⟩ => [.n n3, .n n4, .n n5, .n n6, .n n7, .n n8, .i i9, .i i10, .b b11, .l l12, .b b13, .l l14]
def of3 : List Leaf → Option S3
  | [.n n3, .n n4, .n n5, .n n6, .n n7, .n n8, .i i9, .i i10, .b b11, .l l12, .b b13, .l l14] => some ⟨n3, n4, n5, n6, n7, n8, i9, i10, b11, l12, b13, l14⟩
  | _ => none
def ex3 (k : Kont) : X3 → Option D
  | .e0 n3 n4 n5 n6 n7 n8 i9 i10 b11 l12 b13 l14 => k .ret (us 4 ((.d .bool (db false)) :: ((.sref 0 n3 n4) :: ((.sref 1 n5 n6) :: ((.d (.int .i64) (di i10)) :: ((.d (.int .i32) (ix l12 (n7 + i10.toNat))) :: (us 4 ((.sref 0 n7 n8) :: ((.d (.int .i64) (di i9)) :: ((.d (.int .i64) (di i10)) :: ((.d .bool (db (ltI i10 i9))) :: ((.d (.int .i64) (di i10)) :: ((.ptr 0 [(n7 + i10.toNat)] (.int .i32)) :: ((.d (.int .i32) (ix l12 (n7 + i10.toNat))) :: ((.d (.int .i64) (di i10)) :: ((.sref 1 n5 n6) :: ((.d (.int .i64) (di (nI n6))) :: ((.d .bool (db (geI i10 (nI n6)))) :: (us 18 []))))))))))))))))))) [(.row 21 true b11 l12), (.row 21 true b13 l14)]
  | .e1 n3 n4 n5 n6 n7 n8 i9 i10 b11 l12 b13 l14 => k .ret (us 4 ((.d .bool (db (ltI (ix l12 (n7 + i10.toNat)).i (ix l14 (n5 + i10.toNat)).i))) :: ((.sref 0 n3 n4) :: ((.sref 1 n5 n6) :: ((.d (.int .i64) (di i10)) :: ((.d (.int .i32) (ix l12 (n7 + i10.toNat))) :: (us 4 ((.sref 0 n7 n8) :: ((.d (.int .i64) (di i9)) :: ((.d (.int .i64) (di i10)) :: ((.d .bool (db (ltI i10 i9))) :: ((.d (.int .i64) (di i10)) :: ((.ptr 0 [(n7 + i10.toNat)] (.int .i32)) :: ((.d (.int .i32) (ix l12 (n7 + i10.toNat))) :: ((.d (.int .i64) (di i10)) :: ((.sref 1 n5 n6) :: ((.d (.int .i64) (di (nI n6))) :: ((.d .bool (db (geI i10 (nI n6)))) :: ((.d (.int .i32) (ix l12 (n7 + i10.toNat))) :: ((.sref 1 n5 n6) :: ((.d (.int .i64) (di i10)) :: ((.ptr 1 [(n5 + i10.toNat)] (.int .i32)) :: ((.d (.int .i32) (ix l14 (n5 + i10.toNat))) :: ((.d .bool (db (neI (ix l12 (n7 + i10.toNat)).i (ix l14 (n5 + i10.toNat)).i))) :: ((.d (.int .i32) (ix l12 (n7 + i10.toNat))) :: ((.sref 1 n5 n6) :: ((.d (.int .i64) (di i10)) :: ((.ptr 1 [(n5 + i10.toNat)] (.int .i32)) :: ((.d (.int .i32) (ix l14 (n5 + i10.toNat))) :: ((.d .bool (db (ltI (ix l12 (n7 + i10.toNat)).i (ix l14 (n5 + i10.toNat)).i))) :: (us 6 []))))))))))))))))))))))))))))))) [(.row 21 true b11 l12), (.row 21 true b13 l14)]
  | .e2 n3 n4 n5 n6 n7 n8 i9 i10 b11 l12 b13 l14 => k (.exit 0) (us 5 ((.sref 0 n3 n4) :: ((.sref 1 n5 n6) :: (us 6 ((.sref 0 n7 n8) :: ((.d (.int .i64) (di i9)) :: ((.d (.int .i64) (di i10)) :: ((.d .bool (db (ltI i10 i9))) :: (us 25 []))))))))) [(.row 21 true b11 l12), (.row 21 true b13 l14)]
def ps3 : List PV := (up 5 ((.sref 0) :: ((.sref 1) :: (up 6 ((.sref 0) :: ((.d (.int .i64) (.int .i64)) :: ((.d (.int .i64) (.int .i64)) :: (up 26 []))))))))
def qs3 : List PO := [(.row 21 true), (.row 21 true)]
noncomputable def sum3 (M : Nat) : Sum := sumS [5, 6, 13, 14, 15] ps3 qs3 [] of3 (st3 M) ex3 M
theorem sok3 (M : Nat) : SumOk (loopRd (e M) 77 3) (e M) (call (e M) 11) 77 0 (loopAt (e M) 77 3) (sum3 M) :=
  sumOk_st (T := tblOf (t77_0 M)) (n0 := 2) (lv := lv3) (t77_0_ok M) (by kernel_rfl) rfl (by intro ls s h; unfold of3 at h; (repeat' split at h) <;> simp at h; subst h; rfl) (by intro s; kernel_rfl) (by intro s; kernel_rfl) (by intro s nx k; kernel_rfl)
noncomputable def t77_1 (M : Nat) : List Ent := ⟨77, 11, 0, 3, sum3 M⟩ :: t77_0 M
theorem t77_1_ok (M : Nat) : AllOk (e M) (tblOf (t77_1 M)) := (t77_0_ok M).add ⟨77, 11, 0, 3, sum3 M⟩ (by kernel_rfl) (sok3 M)
def s (M : Nat) (p0 : ByteArray) (p1 : ByteArray) : Option D :=
  (bd (F102.s FUEL p0) fun r1 => (bd (F102.s FUEL p1) fun r2 => (goS (st3 M) M ⟨0, r1.elems.length, 0, r2.elems.length, 0, r1.elems.length, (nI r1.elems.length), 0, r1.nn, r1.elems, r2.nn, r2.elems⟩ fun x => match x with | .e0 n3 n4 n5 n6 n7 n8 i9 i10 b11 l12 b13 l14 => (some (db false)) | .e1 n3 n4 n5 n6 n7 n8 i9 i10 b11 l12 b13 l14 => (some (db (ltI (ix l12 (n7 + i10.toNat)).i (ix l14 (n5 + i10.toNat)).i))) | .e2 n3 n4 n5 n6 n7 n8 i9 i10 b11 l12 b13 l14 => (some (db (ltI (nI n4) (nI n6)))))))
theorem run (M : Nat) (p0 : ByteArray) (p1 : ByteArray) : callS (e M) (tblOf (t77_1 M)) 12 (.fn 77) [.d .str (dS p0), .d .str (dS p1)] [] (fun v H => finish ty [4] v H) = s M p0 p1 := by kernel_rfl
noncomputable abbrev t (M : Nat) : List Ent := t77_1 M
theorem t_ok (M : Nat) : AllOk (e M) (tblOf (t M)) := t77_1_ok M
def c : Con := { run := fun ds => match ds with | [p0, p1] => s FUEL p0.s p1.s | _ => none, fresh := false, plain := true }
theorem fun_at : Tryd.prog.funcs[77]? = some Tryd.f77 := by kernel_rfl
theorem params : Tryd.f77.params.toList.map ty = [.str, .str] := by kernel_rfl
theorem results : Tryd.f77.resultTypes.toList = [4] := by kernel_rfl
theorem flat : Tryd.f77.resultTypes.toList.all (fun t => K.flat ty 20 (ty t)) = true := by kernel_rfl
theorem ok : ConOk (77, c) := by
  intro fn hfn
  obtain rfl : Tryd.f77 = fn := Option.some.inj (fun_at.symm.trans hfn)
  refine contract_flat (n := 20) hgl (fun _ => flat) (fun ds r hh0 hr => ?_)
  rw [params] at hh0
  obtain ⟨p0, ds0, rfl, h0, hh1⟩ := hass_cons hh0
  obtain ⟨p0, rfl⟩ := has_str h0
  obtain ⟨p1, ds1, rfl, h1, hh2⟩ := hass_cons hh1
  obtain ⟨p1, rfl⟩ := has_str h1
  obtain rfl := hass_nil hh2
  refine ⟨e FUEL, DEPTH, tblOf (t FUEL), envOk (allCons F102.ok allNil) allNil, rfl, t_ok FUEL, ?_⟩
  rw [params, results]
  exact (run FUEL p0 p1).trans hr
end F77
namespace F86
end F86
namespace F88
def cons : List (Nat × Con) := []
def exts : List (Nat × Ext) := []
def h : List (Nat × Nat × Hint) := []
noncomputable def e (M : Nat) : Env := env cons exts h M
noncomputable def t88_0 (_ : Nat) : List Ent := []
theorem t88_0_ok (M : Nat) : AllOk (e M) (tblOf (t88_0 M)) := AllOk.nil
def s (M : Nat) (p0 : D) : Option D :=
  (cond (!p0.nn) (some (.slice false [])) (cond (mx p0.elems.length) (cond ((decide (p0.elems.length = p0.elems.length)) && true) (some (.slice true p0.elems)) none) none))
theorem run (M : Nat) (p0 : D) : callS (e M) (tblOf (t88_0 M)) 12 (.fn 88) [.d (.slice 9) p0] [] (fun v H => finishFresh ty [40] v H) = s M p0 := by kernel_rfl
noncomputable abbrev t (M : Nat) : List Ent := t88_0 M
theorem t_ok (M : Nat) : AllOk (e M) (tblOf (t M)) := t88_0_ok M
def c : Con := { run := fun ds => match ds with | [p0] => s FUEL p0 | _ => none, fresh := true, plain := false }
theorem fun_at : Tryd.prog.funcs[88]? = some Tryd.f88 := by kernel_rfl
theorem params : Tryd.f88.params.toList.map ty = [(.slice 9)] := by kernel_rfl
theorem results : Tryd.f88.resultTypes.toList = [40] := by kernel_rfl
theorem ok : ConOk (88, c) := by
  intro fn hfn
  obtain rfl : Tryd.f88 = fn := Option.some.inj (fun_at.symm.trans hfn)
  refine contract_of_fresh hgl rfl rfl (fun ds r hh0 hr => ?_)
  rw [params] at hh0
  obtain ⟨p0, ds0, rfl, h0, hh1⟩ := hass_cons hh0
  obtain rfl := hass_nil hh1
  refine ⟨e FUEL, DEPTH, tblOf (t FUEL), envOk allNil allNil, rfl, t_ok FUEL, ?_⟩
  rw [params, results]
  exact (run FUEL p0).trans hr
end F88
namespace F63
def cons : List (Nat × Con) := [(49, F49.c), (77, F77.c), (84, F84.c), (88, F88.c)]
def exts : List (Nat × Ext) := [(87, insertX 9)]
def h : List (Nat × Nat × Hint) := [(63, 12, { live := [], rows := [], own := true, inpl := false }), (85, 2, { live := [0, 1, 7, 8], rows := [], own := false, inpl := false })]
noncomputable def e (M : Nat) : Env := env cons exts h M
noncomputable def t63_0 (_ : Nat) : List Ent := []
theorem t63_0_ok (M : Nat) : AllOk (e M) (tblOf (t63_0 M)) := AllOk.nil
structure S85_2 where
  d3 : D
  s4 : ByteArray
  i5 : Int
  i6 : Int
  d7 : D
  i8 : Int
  s9 : ByteArray
  s10 : ByteArray
  b11 : Bool
  i12 : Int
  b13 : Bool
  l14 : (List D)
inductive X85_2 where
  | e0 (d3 : D) (s4 : ByteArray) (i5 : Int) (i6 : Int) (d7 : D) (i8 : Int) (s9 : ByteArray) (s10 : ByteArray) (b11 : Bool) (i12 : Int) (b13 : Bool) (l14 : (List D)) (r15 : D)
  | e1 (d3 : D) (s4 : ByteArray) (i5 : Int) (i6 : Int) (d7 : D) (i8 : Int) (s9 : ByteArray) (s10 : ByteArray) (b11 : Bool) (i12 : Int) (b13 : Bool) (l14 : (List D))
def st85_2 (M : Nat) : S85_2 → (S85_2 → Option D) → (X85_2 → Option D) → Option D
  | ⟨d3, s4, i5, i6, d7, i8, s9, s10, b11, i12, b13, l14⟩, rec, K => (cond (ltI i6 i5) (cond (inb i6 d3.elems.length) (bd (F77.s FUEL (ix d3.elems i6.toNat).s s4) fun r15 => (cond (!r15.b) (K (.e0 d3 s4 i5 i6 d7 i8 s9 s10 b11 i12 b13 l14 r15)) (rec ⟨d3, s4, i5, (ad .i64 i6 1), d7, i8, s9, s10, b11, i12, b13, l14⟩))) none) (K (.e1 d3 s4 i5 i6 d7 i8 s9 s10 b11 i12 b13 l14)))
def lv85_2 : S85_2 → List Leaf
  | ⟨d3, s4, i5, i6, d7, i8, s9, s10, b11, i12, b13, l14⟩ => [.d d3, .s s4, .i i5, .i i6, .d d7, .i i8, .s s9, .s s10, .b b11, .i i12, .b b13, .l l14]
def of85_2 : List Leaf → Option S85_2
  | [.d d3, .s s4, .i i5, .i i6, .d d7, .i i8, .s s9, .s s10, .b b11, .i i12, .b b13, .l l14] => some ⟨d3, s4, i5, i6, d7, i8, s9, s10, b11, i12, b13, l14⟩
  | _ => none
def ex85_2 (k : Kont) : X85_2 → Option D
  | .e0 d3 s4 i5 i6 d7 i8 s9 s10 b11 i12 b13 l14 r15 => k .ret ((.d (.slice 9) d3) :: ((.func (.func 86) [(.d .str (dS s4))] []) :: (us 2 ((.d (.int .i64) (di i6)) :: ((.d (.int .i64) (di i6)) :: (us 1 ((.d (.int .i64) (di i5)) :: ((.d (.int .i64) (di i6)) :: ((.d .bool (db (ltI i6 i5))) :: ((.d (.int .i64) (di i6)) :: ((.func (.func 86) [(.d .str (dS s4))] []) :: ((.d (.slice 9) d3) :: ((.d (.int .i64) (di i6)) :: ((.cptr .str (ix d3.elems i6.toNat)) :: ((.d .str (ix d3.elems i6.toNat)) :: ((.d .bool (db (!r15.b))) :: ((.d (.int .i64) (di i6)) :: (us 1 [])))))))))))))))))) [(.var (.struct [3, 9, 9, 4, 3, 40]) (.d (.struct [3, 9, 9, 4, 3, 40]) d7)), (.var (.struct [3, 9, 9, 4, 3, 40]) (.d (.struct [3, 9, 9, 4, 3, 40]) (da [(di i8), (dS s9), (dS s10), (db b11), (di i12), (dl b13 l14)])))]
  | .e1 d3 s4 i5 i6 d7 i8 s9 s10 b11 i12 b13 l14 => k (.exit 0) ((.d (.slice 9) d3) :: ((.func (.func 86) [(.d .str (dS s4))] []) :: (us 5 ((.d (.int .i64) (di i5)) :: ((.d (.int .i64) (di i6)) :: ((.d .bool (db (ltI i6 i5))) :: (us 9 []))))))) [(.var (.struct [3, 9, 9, 4, 3, 40]) (.d (.struct [3, 9, 9, 4, 3, 40]) d7)), (.var (.struct [3, 9, 9, 4, 3, 40]) (.d (.struct [3, 9, 9, 4, 3, 40]) (da [(di i8), (dS s9), (dS s10), (db b11), (di i12), (dl b13 l14)])))]
def ps85_2 : List PV := ((.d (.slice 9) .x) :: ((.func 86 [(.d .str .str)] []) :: (up 5 ((.d (.int .i64) (.int .i64)) :: ((.d (.int .i64) (.int .i64)) :: (up 10 []))))))
def qs85_2 : List PO := [(.var (.struct [3, 9, 9, 4, 3, 40]) (.d (.struct [3, 9, 9, 4, 3, 40]) .x)), (.var (.struct [3, 9, 9, 4, 3, 40]) (.d (.struct [3, 9, 9, 4, 3, 40]) (.agg [(.int .i64), .str, .str, .bool, (.int .i64), .slice])))]
noncomputable def sum85_2 (M : Nat) : Sum := sumS [0, 1, 7, 8] ps85_2 qs85_2 [] of85_2 (st85_2 M) ex85_2 M
theorem sok85_2 (M : Nat) : SumOk (loopRd (e M) 85 2) (e M) (call (e M) 10) 85 2 (loopAt (e M) 85 2) (sum85_2 M) :=
  sumOk_st (T := tblOf (t63_0 M)) (n0 := 2) (lv := lv85_2) (t63_0_ok M) (by kernel_rfl) rfl (by intro ls s h; unfold of85_2 at h; (repeat' split at h) <;> simp at h; subst h; rfl) (by intro s; kernel_rfl) (by intro s; kernel_rfl) (by intro s nx k; kernel_rfl)
noncomputable def t63_1 (M : Nat) : List Ent := ⟨85, 10, 2, 2, sum85_2 M⟩ :: t63_0 M
theorem t63_1_ok (M : Nat) : AllOk (e M) (tblOf (t63_1 M)) := (t63_0_ok M).add ⟨85, 10, 2, 2, sum85_2 M⟩ (by kernel_rfl) (sok85_2 M)
def s (M : Nat) (p0 : D) (p1 : ByteArray) : Option D :=
  (cond (!(p0.at 3).b) (some (D.tup [p0, (di 6)])) (bd (F49.s FUEL p1) fun r1 => (cond (!r1.b) (some (D.tup [p0, (di 2)])) (bd (F84.s FUEL (p0.at 5) p1) fun r2 => (cond r2.b (some (D.tup [p0, (di 4)])) (cond (geI (nI (p0.at 5).elems.length) 4) (some (D.tup [p0, (di 10)])) (goS (st85_2 M) M ⟨(p0.at 5), p1, (nI (p0.at 5).elems.length), 0, p0, 0, (bs []), (bs []), false, 0, false, []⟩ fun x => match x with | .e0 d3 s4 i5 i6 d7 i8 s9 s10 b11 i12 b13 l14 r15 => (cond (ltI i6 0) (bd (F88.s FUEL (d7.at 5)) fun r16 => (cond (true && true && true && (leI 0 (nI (d7.at 5).elems.length)) && (leI (nI (d7.at 5).elems.length) (nI r16.elems.length)) && (mx (r16.elems.length + 1))) (some (D.tup [(da [(d7.at 0), (d7.at 1), (d7.at 2), (d7.at 3), (d7.at 4), (dl true (((ap (ap (((r16.elems.drop 0).take r16.elems.length).take (d7.at 5).elems.length) [(dS p1)]) (((r16.elems.drop 0).take r16.elems.length).drop (d7.at 5).elems.length)).drop 0).take (r16.elems.length + 1)))]), (di 0)])) none)) (bd (F88.s FUEL (d7.at 5)) fun r17 => (cond (true && true && true && (leI 0 i6) && (leI i6 (nI r17.elems.length)) && (mx (r17.elems.length + 1))) (some (D.tup [(da [(d7.at 0), (d7.at 1), (d7.at 2), (d7.at 3), (d7.at 4), (dl true (((ap (ap (((r17.elems.drop 0).take r17.elems.length).take i6.toNat) [(dS p1)]) (((r17.elems.drop 0).take r17.elems.length).drop i6.toNat)).drop 0).take (r17.elems.length + 1)))]), (di 0)])) none))) | .e1 d3 s4 i5 i6 d7 i8 s9 s10 b11 i12 b13 l14 => (bd (F88.s FUEL (d7.at 5)) fun r18 => (cond (true && true && true && (leI 0 (nI (d7.at 5).elems.length)) && (leI (nI (d7.at 5).elems.length) (nI r18.elems.length)) && (mx (r18.elems.length + 1))) (some (D.tup [(da [(d7.at 0), (d7.at 1), (d7.at 2), (d7.at 3), (d7.at 4), (dl true (((ap (ap (((r18.elems.drop 0).take r18.elems.length).take (d7.at 5).elems.length) [(dS p1)]) (((r18.elems.drop 0).take r18.elems.length).drop (d7.at 5).elems.length)).drop 0).take (r18.elems.length + 1)))]), (di 0)])) none)))))))))
theorem run (M : Nat) (p0 : D) (p1 : ByteArray) : callS (e M) (tblOf (t63_1 M)) 12 (.fn 63) [.d (.struct [3, 9, 9, 4, 3, 40]) p0, .d .str (dS p1)] [] (fun v H => finish ty [42, 28] v H) = s M p0 p1 := by kernel_rfl
noncomputable abbrev t (M : Nat) : List Ent := t63_1 M
theorem t_ok (M : Nat) : AllOk (e M) (tblOf (t M)) := t63_1_ok M
def c : Con := { run := fun ds => match ds with | [p0, p1] => s FUEL p0 p1.s | _ => none, fresh := false, plain := false }
theorem fun_at : Tryd.prog.funcs[63]? = some Tryd.f63 := by kernel_rfl
theorem params : Tryd.f63.params.toList.map ty = [(.struct [3, 9, 9, 4, 3, 40]), .str] := by kernel_rfl
theorem results : Tryd.f63.resultTypes.toList = [42, 28] := by kernel_rfl
theorem ok : ConOk (63, c) := by
  intro fn hfn
  obtain rfl : Tryd.f63 = fn := Option.some.inj (fun_at.symm.trans hfn)
  refine contract_flat (n := 20) hgl (fun h => by simp at h) (fun ds r hh0 hr => ?_)
  rw [params] at hh0
  obtain ⟨p0, ds0, rfl, h0, hh1⟩ := hass_cons hh0
  obtain ⟨p1, ds1, rfl, h1, hh2⟩ := hass_cons hh1
  obtain ⟨p1, rfl⟩ := has_str h1
  obtain rfl := hass_nil hh2
  refine ⟨e FUEL, DEPTH, tblOf (t FUEL), envOk (allCons F49.ok (allCons F77.ok (allCons F84.ok (allCons F88.ok allNil)))) (allCons insert_ok allNil), rfl, t_ok FUEL, ?_⟩
  rw [params, results]
  exact (run FUEL p0 p1).trans hr
end F63
namespace F65
def cons : List (Nat × Con) := [(88, F88.c), (89, F89.c)]
def exts : List (Nat × Ext) := []
def h : List (Nat × Nat × Hint) := [(90, 5, { live := [], rows := [], own := false, inpl := true })]
noncomputable def e (M : Nat) : Env := env cons exts h M
noncomputable def t65_0 (_ : Nat) : List Ent := []
theorem t65_0_ok (M : Nat) : AllOk (e M) (tblOf (t65_0 M)) := AllOk.nil
def s (M : Nat) (p0 : D) (p1 : ByteArray) : Option D :=
  (bd (F89.s FUEL (p0.at 5) p1) fun r1 => (cond (ltI r1.i 0) (some (D.tup [p0, (di 3)])) (bd (F88.s FUEL (p0.at 5)) fun r2 => (cond ((leI 0 r1.i) && (leI r1.i (ad .i64 r1.i 1)) && (leI (ad .i64 r1.i 1) (nI r2.elems.length)) && (leI (nI r2.elems.length) (nI r2.elems.length)) && (eqN (0 + r2.elems.length) r2.elems.length)) (cond (eqI r1.i (ad .i64 r1.i 1)) (some (D.tup [(da [(p0.at 0), (p0.at 1), (p0.at 2), (p0.at 3), (p0.at 4), (dl r2.nn ((r2.elems.drop 0).take r2.elems.length))]), (di 0)])) (cond (true && (leI 0 r1.i) && (leN (0 + (r1.i).toNat) r2.elems.length)) (cond ((leI 0 (ad .i64 r1.i 1)) && (leI (ad .i64 r1.i 1) (nI r2.elems.length)) && (leN (0 + r2.elems.length) r2.elems.length)) (cond (leN ((0 + ((r1.i).toNat - 0)) + ((r2.elems.drop (0 + (ad .i64 r1.i 1).toNat)).take (r2.elems.length - (ad .i64 r1.i 1).toNat)).length) r2.elems.length) (cond ((leI 0 (nI (((r1.i).toNat - 0) + ((r2.elems.drop (0 + (ad .i64 r1.i 1).toNat)).take (r2.elems.length - (ad .i64 r1.i 1).toNat)).length))) && (leI (nI (((r1.i).toNat - 0) + ((r2.elems.drop (0 + (ad .i64 r1.i 1).toNat)).take (r2.elems.length - (ad .i64 r1.i 1).toNat)).length)) (nI r2.elems.length)) && (leN (0 + r2.elems.length) (ap (ap (r2.elems.take (0 + ((r1.i).toNat - 0))) ((r2.elems.drop (0 + (ad .i64 r1.i 1).toNat)).take (r2.elems.length - (ad .i64 r1.i 1).toNat))) (r2.elems.drop ((0 + ((r1.i).toNat - 0)) + ((r2.elems.drop (0 + (ad .i64 r1.i 1).toNat)).take (r2.elems.length - (ad .i64 r1.i 1).toNat)).length))).length)) (some (D.tup [(da [(p0.at 0), (p0.at 1), (p0.at 2), (p0.at 3), (p0.at 4), (dl r2.nn (((ap (ap ((ap (ap (r2.elems.take (0 + ((r1.i).toNat - 0))) ((r2.elems.drop (0 + (ad .i64 r1.i 1).toNat)).take (r2.elems.length - (ad .i64 r1.i 1).toNat))) (r2.elems.drop ((0 + ((r1.i).toNat - 0)) + ((r2.elems.drop (0 + (ad .i64 r1.i 1).toNat)).take (r2.elems.length - (ad .i64 r1.i 1).toNat)).length))).take (0 + (((r1.i).toNat - 0) + ((r2.elems.drop (0 + (ad .i64 r1.i 1).toNat)).take (r2.elems.length - (ad .i64 r1.i 1).toNat)).length))) (rp (r2.elems.length - (((r1.i).toNat - 0) + ((r2.elems.drop (0 + (ad .i64 r1.i 1).toNat)).take (r2.elems.length - (ad .i64 r1.i 1).toNat)).length)) (dS (bs [])))) ((ap (ap (r2.elems.take (0 + ((r1.i).toNat - 0))) ((r2.elems.drop (0 + (ad .i64 r1.i 1).toNat)).take (r2.elems.length - (ad .i64 r1.i 1).toNat))) (r2.elems.drop ((0 + ((r1.i).toNat - 0)) + ((r2.elems.drop (0 + (ad .i64 r1.i 1).toNat)).take (r2.elems.length - (ad .i64 r1.i 1).toNat)).length))).drop ((0 + (((r1.i).toNat - 0) + ((r2.elems.drop (0 + (ad .i64 r1.i 1).toNat)).take (r2.elems.length - (ad .i64 r1.i 1).toNat)).length)) + (r2.elems.length - (((r1.i).toNat - 0) + ((r2.elems.drop (0 + (ad .i64 r1.i 1).toNat)).take (r2.elems.length - (ad .i64 r1.i 1).toNat)).length))))).drop 0).take (((r1.i).toNat - 0) + ((r2.elems.drop (0 + (ad .i64 r1.i 1).toNat)).take (r2.elems.length - (ad .i64 r1.i 1).toNat)).length)))]), (di 0)])) none) none) none) none)) none))))
theorem run (M : Nat) (p0 : D) (p1 : ByteArray) : callS (e M) (tblOf (t65_0 M)) 12 (.fn 65) [.d (.struct [3, 9, 9, 4, 3, 40]) p0, .d .str (dS p1)] [] (fun v H => finish ty [42, 28] v H) = s M p0 p1 := by kernel_rfl
noncomputable abbrev t (M : Nat) : List Ent := t65_0 M
theorem t_ok (M : Nat) : AllOk (e M) (tblOf (t M)) := t65_0_ok M
def c : Con := { run := fun ds => match ds with | [p0, p1] => s FUEL p0 p1.s | _ => none, fresh := false, plain := false }
theorem fun_at : Tryd.prog.funcs[65]? = some Tryd.f65 := by kernel_rfl
theorem params : Tryd.f65.params.toList.map ty = [(.struct [3, 9, 9, 4, 3, 40]), .str] := by kernel_rfl
theorem results : Tryd.f65.resultTypes.toList = [42, 28] := by kernel_rfl
theorem ok : ConOk (65, c) := by
  intro fn hfn
  obtain rfl : Tryd.f65 = fn := Option.some.inj (fun_at.symm.trans hfn)
  refine contract_flat (n := 20) hgl (fun h => by simp at h) (fun ds r hh0 hr => ?_)
  rw [params] at hh0
  obtain ⟨p0, ds0, rfl, h0, hh1⟩ := hass_cons hh0
  obtain ⟨p1, ds1, rfl, h1, hh2⟩ := hass_cons hh1
  obtain ⟨p1, rfl⟩ := has_str h1
  obtain rfl := hass_nil hh2
  refine ⟨e FUEL, DEPTH, tblOf (t FUEL), envOk (allCons F88.ok (allCons F89.ok allNil)) allNil, rfl, t_ok FUEL, ?_⟩
  rw [params, results]
  exact (run FUEL p0 p1).trans hr
end F65
namespace F44
def cons : List (Nat × Con) := []
def exts : List (Nat × Ext) := []
def h : List (Nat × Nat × Hint) := []
noncomputable def e (M : Nat) : Env := env cons exts h M
noncomputable def t44_0 (_ : Nat) : List Ent := []
theorem t44_0_ok (M : Nat) : AllOk (e M) (tblOf (t44_0 M)) := AllOk.nil
def s (M : Nat) (p0 : D) (p1 : Int) : Option D :=
  (cond (!(p0.at 3).b) (some (di 6)) (cond (ltI p1 (p0.at 4).i) (some (di 8)) (cond (gtI (nI (p0.at 5).elems.length) 0) (some (di 9)) (some (di 0)))))
theorem run (M : Nat) (p0 : D) (p1 : Int) : callS (e M) (tblOf (t44_0 M)) 12 (.fn 44) [.d (.struct [3, 9, 9, 4, 3, 40]) p0, .d (.int .i64) (di p1)] [] (fun v H => finish ty [28] v H) = s M p0 p1 := by kernel_rfl
noncomputable abbrev t (M : Nat) : List Ent := t44_0 M
theorem t_ok (M : Nat) : AllOk (e M) (tblOf (t M)) := t44_0_ok M
def c : Con := { run := fun ds => match ds with | [p0, p1] => s FUEL p0 p1.i | _ => none, fresh := false, plain := true }
theorem fun_at : Tryd.prog.funcs[44]? = some Tryd.f44 := by kernel_rfl
theorem params : Tryd.f44.params.toList.map ty = [(.struct [3, 9, 9, 4, 3, 40]), (.int .i64)] := by kernel_rfl
theorem results : Tryd.f44.resultTypes.toList = [28] := by kernel_rfl
theorem flat : Tryd.f44.resultTypes.toList.all (fun t => K.flat ty 20 (ty t)) = true := by kernel_rfl
theorem ok : ConOk (44, c) := by
  intro fn hfn
  obtain rfl : Tryd.f44 = fn := Option.some.inj (fun_at.symm.trans hfn)
  refine contract_flat (n := 20) hgl (fun _ => flat) (fun ds r hh0 hr => ?_)
  rw [params] at hh0
  obtain ⟨p0, ds0, rfl, h0, hh1⟩ := hass_cons hh0
  obtain ⟨p1, ds1, rfl, h1, hh2⟩ := hass_cons hh1
  obtain ⟨p1, rfl⟩ := has_int h1
  obtain rfl := hass_nil hh2
  refine ⟨e FUEL, DEPTH, tblOf (t FUEL), envOk allNil allNil, rfl, t_ok FUEL, ?_⟩
  rw [params, results]
  exact (run FUEL p0 p1).trans hr
end F44
namespace F29
end F29
namespace F16
end F16
namespace F14
end F14
namespace F53
def cons : List (Nat × Con) := []
def exts : List (Nat × Ext) := []
def h : List (Nat × Nat × Hint) := [(53, 4, { live := [0, 1, 12, 13], rows := [], own := false, inpl := false })]
noncomputable def e (M : Nat) : Env := env cons exts h M
noncomputable def t53_0 (_ : Nat) : List Ent := []
theorem t53_0_ok (M : Nat) : AllOk (e M) (tblOf (t53_0 M)) := AllOk.nil
structure S4 where
  d1 : D
  d2 : D
  i3 : Int
  i4 : Int
inductive X4 where
  | e0 (d1 : D) (d2 : D) (i3 : Int) (i4 : Int)
  | e1 (d1 : D) (d2 : D) (i3 : Int) (i4 : Int)
def st4 (M : Nat) : S4 → (S4 → Option D) → (X4 → Option D) → Option D
  | ⟨d1, d2, i3, i4⟩, rec, K => (cond (ltI i4 i3) (cond (inb i4 d1.elems.length) (cond (inb i4 d2.elems.length) (cond (!(eqS (ix d1.elems i4.toNat).s (ix d2.elems i4.toNat).s)) (K (.e0 d1 d2 i3 i4)) (rec ⟨d1, d2, i3, (ad .i64 i4 1)⟩)) none) none) (K (.e1 d1 d2 i3 i4)))
def lv4 : S4 → List Leaf
  | ⟨d1, d2, i3, i4⟩ => [.d d1, .d d2, .i i3, .i i4]
def of4 : List Leaf → Option S4
  | [.d d1, .d d2, .i i3, .i i4] => some ⟨d1, d2, i3, i4⟩
  | _ => none
def ex4 (k : Kont) : X4 → Option D
  | .e0 d1 d2 i3 i4 => k .ret ((.d (.slice 9) d1) :: ((.d (.slice 9) d2) :: (us 2 ((.d .bool (db false)) :: ((.d (.int .i64) (di i4)) :: (us 6 ((.d (.int .i64) (di i3)) :: ((.d (.int .i64) (di i4)) :: ((.d .bool (db (ltI i4 i3))) :: ((.d (.int .i64) (di i4)) :: ((.d (.slice 9) d1) :: ((.d (.int .i64) (di i4)) :: ((.cptr .str (ix d1.elems i4.toNat)) :: ((.d .str (ix d1.elems i4.toNat)) :: ((.d (.slice 9) d2) :: ((.d (.int .i64) (di i4)) :: ((.cptr .str (ix d2.elems i4.toNat)) :: ((.d .str (ix d2.elems i4.toNat)) :: ((.d .bool (db (!(eqS (ix d1.elems i4.toNat).s (ix d2.elems i4.toNat).s)))) :: (us 1 [])))))))))))))))))))) []
  | .e1 d1 d2 i3 i4 => k (.exit 0) ((.d (.slice 9) d1) :: ((.d (.slice 9) d2) :: (us 10 ((.d (.int .i64) (di i3)) :: ((.d (.int .i64) (di i4)) :: ((.d .bool (db (ltI i4 i3))) :: (us 11 []))))))) []
def ps4 : List PV := ((.d (.slice 9) .x) :: ((.d (.slice 9) .x) :: (up 10 ((.d (.int .i64) (.int .i64)) :: ((.d (.int .i64) (.int .i64)) :: (up 12 []))))))
def qs4 : List PO := []
noncomputable def sum4 (M : Nat) : Sum := sumS [0, 1, 12, 13] ps4 qs4 [] of4 (st4 M) ex4 M
theorem sok4 (M : Nat) : SumOk (loopRd (e M) 53 4) (e M) (call (e M) 11) 53 0 (loopAt (e M) 53 4) (sum4 M) :=
  sumOk_st (T := tblOf (t53_0 M)) (n0 := 0) (lv := lv4) (t53_0_ok M) (by kernel_rfl) rfl (by intro ls s h; unfold of4 at h; (repeat' split at h) <;> simp at h; subst h; rfl) (by intro s; kernel_rfl) (by intro s; kernel_rfl) (by intro s nx k; kernel_rfl)
noncomputable def t53_1 (M : Nat) : List Ent := ⟨53, 11, 0, 4, sum4 M⟩ :: t53_0 M
theorem t53_1_ok (M : Nat) : AllOk (e M) (tblOf (t53_1 M)) := (t53_0_ok M).add ⟨53, 11, 0, 4, sum4 M⟩ (by kernel_rfl) (sok4 M)
def s (M : Nat) (p0 : D) (p1 : D) : Option D :=
  (cond (neI (nI p0.elems.length) (nI p1.elems.length)) (some (db false)) (goS (st4 M) M ⟨p0, p1, (nI p0.elems.length), 0⟩ fun x => match x with | .e0 d1 d2 i3 i4 => (some (db false)) | .e1 d1 d2 i3 i4 => (some (db true))))
theorem run (M : Nat) (p0 : D) (p1 : D) : callS (e M) (tblOf (t53_1 M)) 12 (.fn 53) [.d (.slice 9) p0, .d (.slice 9) p1] [] (fun v H => finish ty [4] v H) = s M p0 p1 := by kernel_rfl
noncomputable abbrev t (M : Nat) : List Ent := t53_1 M
theorem t_ok (M : Nat) : AllOk (e M) (tblOf (t M)) := t53_1_ok M
def c : Con := { run := fun ds => match ds with | [p0, p1] => s FUEL p0 p1 | _ => none, fresh := false, plain := true }
theorem fun_at : Tryd.prog.funcs[53]? = some Tryd.f53 := by kernel_rfl
theorem params : Tryd.f53.params.toList.map ty = [(.slice 9), (.slice 9)] := by kernel_rfl
theorem results : Tryd.f53.resultTypes.toList = [4] := by kernel_rfl
theorem flat : Tryd.f53.resultTypes.toList.all (fun t => K.flat ty 20 (ty t)) = true := by kernel_rfl
theorem ok : ConOk (53, c) := by
  intro fn hfn
  obtain rfl : Tryd.f53 = fn := Option.some.inj (fun_at.symm.trans hfn)
  refine contract_flat (n := 20) hgl (fun _ => flat) (fun ds r hh0 hr => ?_)
  rw [params] at hh0
  obtain ⟨p0, ds0, rfl, h0, hh1⟩ := hass_cons hh0
  obtain ⟨p1, ds1, rfl, h1, hh2⟩ := hass_cons hh1
  obtain rfl := hass_nil hh2
  refine ⟨e FUEL, DEPTH, tblOf (t FUEL), envOk allNil allNil, rfl, t_ok FUEL, ?_⟩
  rw [params, results]
  exact (run FUEL p0 p1).trans hr
end F53
namespace F32
def cons : List (Nat × Con) := [(53, F53.c)]
def exts : List (Nat × Ext) := []
def h : List (Nat × Nat × Hint) := []
noncomputable def e (M : Nat) : Env := env cons exts h M
noncomputable def t32_0 (_ : Nat) : List Ent := []
theorem t32_0_ok (M : Nat) : AllOk (e M) (tblOf (t32_0 M)) := AllOk.nil
def s (M : Nat) (p0 : D) (p1 : D) : Option D :=
  (cond (eqI (p0.at 0).i (p1.at 0).i) (cond (eqS (p0.at 1).s (p1.at 1).s) (cond (eqS (p0.at 2).s (p1.at 2).s) (bd (match D.eqv ty eqDepth (p0.at 3) (p1.at 3) .bool with | some z => some (.bool z) | none => none) fun r1 => (cond r1.b (cond (eqI (p0.at 4).i (p1.at 4).i) (bd (F53.s FUEL (p0.at 5) (p1.at 5)) fun r2 => (some r2)) (some (db false))) (some (db false)))) (some (db false))) (some (db false))) (some (db false)))
theorem run (M : Nat) (p0 : D) (p1 : D) : callS (e M) (tblOf (t32_0 M)) 12 (.fn 32) [.d (.struct [3, 9, 9, 4, 3, 40]) p0, .d (.struct [3, 9, 9, 4, 3, 40]) p1] [] (fun v H => finish ty [4] v H) = s M p0 p1 := by kernel_rfl
noncomputable abbrev t (M : Nat) : List Ent := t32_0 M
theorem t_ok (M : Nat) : AllOk (e M) (tblOf (t M)) := t32_0_ok M
def c : Con := { run := fun ds => match ds with | [p0, p1] => s FUEL p0 p1 | _ => none, fresh := false, plain := true }
theorem fun_at : Tryd.prog.funcs[32]? = some Tryd.f32 := by kernel_rfl
theorem params : Tryd.f32.params.toList.map ty = [(.struct [3, 9, 9, 4, 3, 40]), (.struct [3, 9, 9, 4, 3, 40])] := by kernel_rfl
theorem results : Tryd.f32.resultTypes.toList = [4] := by kernel_rfl
theorem flat : Tryd.f32.resultTypes.toList.all (fun t => K.flat ty 20 (ty t)) = true := by kernel_rfl
theorem ok : ConOk (32, c) := by
  intro fn hfn
  obtain rfl : Tryd.f32 = fn := Option.some.inj (fun_at.symm.trans hfn)
  refine contract_flat (n := 20) hgl (fun _ => flat) (fun ds r hh0 hr => ?_)
  rw [params] at hh0
  obtain ⟨p0, ds0, rfl, h0, hh1⟩ := hass_cons hh0
  obtain ⟨p1, ds1, rfl, h1, hh2⟩ := hass_cons hh1
  obtain rfl := hass_nil hh2
  refine ⟨e FUEL, DEPTH, tblOf (t FUEL), envOk (allCons F53.ok allNil) allNil, rfl, t_ok FUEL, ?_⟩
  rw [params, results]
  exact (run FUEL p0 p1).trans hr
end F32
namespace F31
end F31
namespace F15
end F15
namespace F12
end F12
namespace F13
end F13
namespace F3
end F3
namespace F4
end F4
namespace F5
end F5
end Go.AM.SD
