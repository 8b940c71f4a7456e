/- Part 7 of the proof: the abstract machine, what the functions compute, and plain laws over that. -/
import Derived.Test.YtonknblidjpfeaaDoorRp6
set_option linter.all false
set_option linter.unusedSimpArgs false
set_option linter.unusedVariables false
set_option linter.unusedSectionVars false
namespace Go.AM.SD
open Go Go.AM Go.Proofs Go.RowKit
def FUEL : Nat := 1048576
abbrev DEPTH : Nat := 6
namespace F47
def cons : List (Nat × Con) := []
def exts : List (Nat × Ext) := []
def h : List (Nat × Nat × Hint) := []
noncomputable def e (M : Nat) : Env := env cons exts h M
noncomputable def t47_0 (_ : Nat) : List Ent := []
theorem t47_0_ok (M : Nat) : AllOk (e M) (tblOf (t47_0 M)) := AllOk.nil
def s (M : Nat) (p0 : D) : Option D :=
  (cond (eqI (p0.at 0).i 0) (cond (eqI (p0.at 0).i 0) (some (dl true [(D.iface 120 (p0.at 1)), (D.iface 107 (p0.at 2))])) (cond (eqI (p0.at 0).i 1) (some (dl true [(D.iface 120 (p0.at 1)), (D.iface 120 (p0.at 4))])) (cond (eqI (p0.at 0).i 2) (some (dl true [(D.iface 120 (p0.at 1)), (D.iface 120 (p0.at 3)), (D.iface 120 (p0.at 4)), (D.iface 121 (p0.at 5))])) (cond (eqI (p0.at 0).i 3) (some (dl true [(D.iface 120 (p0.at 1)), (D.iface 120 (p0.at 3))])) (cond (eqI (p0.at 0).i 6) (some (dl true [(D.iface 120 (p0.at 1))])) (cond (eqI (p0.at 0).i 7) (some (dl true [(D.iface 120 (p0.at 3))])) (some (dl false [])))))))) (cond (eqI (p0.at 0).i 4) (cond (eqI (p0.at 0).i 4) (some (dl true [(D.iface 120 (p0.at 1)), (D.iface 107 (p0.at 2))])) (cond (eqI (p0.at 0).i 1) (some (dl true [(D.iface 120 (p0.at 1)), (D.iface 120 (p0.at 4))])) (cond (eqI (p0.at 0).i 2) (some (dl true [(D.iface 120 (p0.at 1)), (D.iface 120 (p0.at 3)), (D.iface 120 (p0.at 4)), (D.iface 121 (p0.at 5))])) (cond (eqI (p0.at 0).i 3) (some (dl true [(D.iface 120 (p0.at 1)), (D.iface 120 (p0.at 3))])) (cond (eqI (p0.at 0).i 6) (some (dl true [(D.iface 120 (p0.at 1))])) (cond (eqI (p0.at 0).i 7) (some (dl true [(D.iface 120 (p0.at 3))])) (some (dl false [])))))))) (cond (eqI (p0.at 0).i 5) (some (dl true [(D.iface 120 (p0.at 1)), (D.iface 107 (p0.at 2))])) (cond (eqI (p0.at 0).i 1) (some (dl true [(D.iface 120 (p0.at 1)), (D.iface 120 (p0.at 4))])) (cond (eqI (p0.at 0).i 2) (some (dl true [(D.iface 120 (p0.at 1)), (D.iface 120 (p0.at 3)), (D.iface 120 (p0.at 4)), (D.iface 121 (p0.at 5))])) (cond (eqI (p0.at 0).i 3) (some (dl true [(D.iface 120 (p0.at 1)), (D.iface 120 (p0.at 3))])) (cond (eqI (p0.at 0).i 6) (some (dl true [(D.iface 120 (p0.at 1))])) (cond (eqI (p0.at 0).i 7) (some (dl true [(D.iface 120 (p0.at 3))])) (some (dl false []))))))))))
theorem run (M : Nat) (p0 : D) : callS (e M) (tblOf (t47_0 M)) 6 47 [.d (.struct [34, 3, 9, 3, 3, 36]) p0] [] (fun v H => finish ty [102] v H) = s M p0 := by kernel_rfl
noncomputable abbrev t (M : Nat) : List Ent := t47_0 M
theorem t_ok (M : Nat) : AllOk (e M) (tblOf (t M)) := t47_0_ok M
def c : Con := { run := fun ds => match ds with | [p0] => s FUEL p0 | _ => none, fresh := false, plain := false }
theorem fun_at : Tryd.prog.funcs[47]? = some Tryd.f47 := by kernel_rfl
theorem params : Tryd.f47.params.toList.map ty = [(.struct [34, 3, 9, 3, 3, 36])] := by kernel_rfl
theorem results : Tryd.f47.resultTypes.toList = [102] := by kernel_rfl
theorem ok : ConOk (47, c) := by
  intro fn hfn
  obtain rfl : Tryd.f47 = fn := Option.some.inj (fun_at.symm.trans hfn)
  refine contract_flat (n := 20) hgl (fun h => by simp at h) (fun ds r hh0 hr => ?_)
  rw [params] at hh0
  obtain ⟨p0, ds0, rfl, h0, hh1⟩ := hass_cons hh0
  obtain rfl := hass_nil hh1
  refine ⟨e FUEL, DEPTH, tblOf (t FUEL), envOk allNil allNil, rfl, t_ok FUEL, ?_⟩
  rw [params, results]
  exact (run FUEL p0).trans hr
end F47
namespace F48
def cons : List (Nat × Con) := []
def exts : List (Nat × Ext) := []
def h : List (Nat × Nat × Hint) := [(48, 4, { live := [0, 4, 5, 6, 14, 15, 16], rows := [(6, 3)], own := false, inpl := false })]
noncomputable def e (M : Nat) : Env := env cons exts h M
noncomputable def t48_0 (_ : Nat) : List Ent := []
theorem t48_0_ok (M : Nat) : AllOk (e M) (tblOf (t48_0 M)) := AllOk.nil
structure S4 where
  i21 : Int
  n22 : Nat
  n23 : Nat
  d24 : D
  i25 : Int
  i26 : Int
  i27 : Int
  i28 : Int
  s29 : ByteArray
  i30 : Int
  i31 : Int
  d32 : D
  i33 : Int
  i34 : Int
  d35 : D
  i36 : Int
  i37 : Int
  d38 : D
  b39 : Bool
  l40 : (List D)
inductive X4 where
  | e0 (i21 : Int) (n22 : Nat) (n23 : Nat) (d24 : D) (i25 : Int) (i26 : Int) (i27 : Int) (i28 : Int) (s29 : ByteArray) (i30 : Int) (i31 : Int) (d32 : D) (i33 : Int) (i34 : Int) (d35 : D) (i36 : Int) (i37 : Int) (d38 : D) (b39 : Bool) (l40 : (List D))
def st4 (M : Nat) : S4 → (S4 → Option D) → (X4 → Option D) → Option D
  | ⟨i21, n22, n23, d24, i25, i26, i27, i28, s29, i30, i31, d32, i33, i34, d35, i36, i37, d38, b39, l40⟩, rec, K => (cond (ltI i26 i25) (cond (inb i26 d24.elems.length) (cond (isT 120 (ix d24.elems i26.toNat)) (cond (mx (n23 + 1)) (rec ⟨i21, 0, (n23 + 1), d24, i25, (ad .i64 i26 1), i27, i28, s29, i30, i31, d32, i33, i34, d35, i36, i37, d38, (b39 || true), (ap ((l40.drop n22).take n23) [(assertD 120 (di 0) (ix d24.elems i26.toNat))])⟩) none) (cond (isT 107 (ix d24.elems i26.toNat)) (rec ⟨i21, n22, n23, d24, i25, (ad .i64 i26 1), i27, i28, s29, i30, i31, d32, i33, i34, (assertD 107 (dS (bs [])) (ix d24.elems i26.toNat)), i36, i37, d38, b39, l40⟩) (cond (isT 121 (ix d24.elems i26.toNat)) (rec ⟨i21, n22, n23, d24, i25, (ad .i64 i26 1), i27, i28, s29, i30, i31, d32, i33, i34, d35, i36, i37, (assertD 121 (da (rp 32 (D.int .u8 0))) (ix d24.elems i26.toNat)), b39, l40⟩) (rec ⟨i21, n22, n23, d24, i25, (ad .i64 i26 1), i27, i28, s29, i30, i31, d32, i33, i34, d35, i36, i37, d38, b39, l40⟩)))) none) (K (.e0 i21 n22 n23 d24 i25 i26 i27 i28 s29 i30 i31 d32 i33 i34 d35 i36 i37 d38 b39 l40)))
def lv4 : S4 → List Leaf
  | ⟨i21, n22, n23, d24, i25, i26, i27, i28, s29, i30, i31, d32, i33, i34, d35, i36, i37, d38, b39, l40⟩ => [.i i21, .n n22, .n n23, .d d24, .i i25, .i i26, .i i27, .i i28, .s s29, .i i30, .i i31, .d d32, .i i33, .i i34, .d d35, .i i36, .i i37, .d d38, .b b39, .l l40]
def of4 : List Leaf → Option S4
  | [.i i21, .n n22, .n n23, .d d24, .i i25, .i i26, .i i27, .i i28, .s s29, .i i30, .i i31, .d d32, .i i33, .i i34, .d d35, .i i36, .i i37, .d d38, .b b39, .l l40] => some ⟨i21, n22, n23, d24, i25, i26, i27, i28, s29, i30, i31, d32, i33, i34, d35, i36, i37, d38, b39, l40⟩
  | _ => none
def ex4 (k : Kont) : X4 → Option D
  | .e0 i21 n22 n23 d24 i25 i26 i27 i28 s29 i30 i31 d32 i33 i34 d35 i36 i37 d38 b39 l40 => k (.exit 0) ((.d (.int .i64) (di i21)) :: (us 3 ((.ptr 0 [] (.struct [34, 3, 9, 3, 3, 36])) :: ((.ptr 1 [] (.struct [34, 3, 9, 3, 3, 36])) :: ((.sref 2 n22 n23) :: (us 7 ((.d (.slice 106) d24) :: ((.d (.int .i64) (di i25)) :: ((.d (.int .i64) (di i26)) :: ((.d .bool (db (ltI i26 i25))) :: (us 56 []))))))))))) [(.var (.struct [34, 3, 9, 3, 3, 36]) (.d (.struct [34, 3, 9, 3, 3, 36]) (da [(di i27), (di i28), (dS s29), (di i30), (di i31), d32]))), (.var (.struct [34, 3, 9, 3, 3, 36]) (.d (.struct [34, 3, 9, 3, 3, 36]) (da [(di i33), (di i34), d35, (di i36), (di i37), d38]))), (.row 3 true b39 l40)]
def ps4 : List PV := ((.d (.int .i64) (.int .i64)) :: (up 3 ((.ptr 0 [] (.struct [34, 3, 9, 3, 3, 36])) :: ((.ptr 1 [] (.struct [34, 3, 9, 3, 3, 36])) :: ((.sref 2) :: (up 7 ((.d (.slice 106) .x) :: ((.d (.int .i64) (.int .i64)) :: ((.d (.int .i64) (.int .i64)) :: (up 57 []))))))))))
def qs4 : List PO := [(.var (.struct [34, 3, 9, 3, 3, 36]) (.d (.struct [34, 3, 9, 3, 3, 36]) (.agg [(.int .i64), (.int .i64), .str, (.int .i64), (.int .i64), .x]))), (.var (.struct [34, 3, 9, 3, 3, 36]) (.d (.struct [34, 3, 9, 3, 3, 36]) (.agg [(.int .i64), (.int .i64), .x, (.int .i64), (.int .i64), .x]))), (.row 3 true)]
noncomputable def sum4 (M : Nat) : Sum := sumS [0, 4, 5, 6, 14, 15, 16] ps4 qs4 [(6, 2)] of4 (st4 M) ex4 M
theorem sok4 (M : Nat) : SumOk (e M) (call (e M) 5) 48 0 (loopAt (e M) 48 4) (sum4 M) :=
  sumOk_st (T := tblOf (t48_0 M)) (n0 := 3) (lv := lv4) (t48_0_ok M) (by kernel_rfl) rfl (by intro ls s h; unfold of4 at h; split at h <;> simp at h; subst h; rfl) (by intro s; kernel_rfl) (by intro s; kernel_rfl) (by intro s nx k; kernel_rfl)
noncomputable def t48_1 (M : Nat) : List Ent := ⟨48, 5, 0, 4, sum4 M⟩ :: t48_0 M
theorem t48_1_ok (M : Nat) : AllOk (e M) (tblOf (t48_1 M)) := (t48_0_ok M).add ⟨48, 5, 0, 4, sum4 M⟩ (by kernel_rfl) (sok4 M)
def s (M : Nat) (p0 : Int) (p1 : D) : Option D :=
  (goS (st4 M) M ⟨p0, 0, 0, p1, (nI p1.elems.length), 0, 0, 0, (bs []), 0, 0, (da (rp 32 (D.int .u8 0))), p0, 0, (dS (bs [])), 0, 0, (da (rp 32 (D.int .u8 0))), false, []⟩ fun x => match x with | .e0 i21 n22 n23 d24 i25 i26 i27 i28 s29 i30 i31 d32 i33 i34 d35 i36 i37 d38 b39 l40 => (cond (eqI i21 7) (cond (inb 0 n23) (some (da [(di i33), (di i34), d35, (ix l40 (n22 + 0)), (di i37), d38])) none) (cond (eqI i21 1) (cond (inb 1 n23) (cond (inb 0 n23) (some (da [(di i33), (ix l40 (n22 + 0)), d35, (di i36), (ix l40 (n22 + 1)), d38])) none) none) (cond (eqI i21 2) (cond (inb 1 n23) (cond (inb 2 n23) (cond (inb 0 n23) (some (da [(di i33), (ix l40 (n22 + 0)), d35, (ix l40 (n22 + 1)), (ix l40 (n22 + 2)), d38])) none) none) none) (cond (eqI i21 3) (cond (inb 1 n23) (cond (inb 0 n23) (some (da [(di i33), (ix l40 (n22 + 0)), d35, (ix l40 (n22 + 1)), (di i37), d38])) none) none) (cond (inb 0 n23) (some (da [(di i33), (ix l40 (n22 + 0)), d35, (di i36), (di i37), d38])) none))))))
theorem run (M : Nat) (p0 : Int) (p1 : D) : callS (e M) (tblOf (t48_1 M)) 6 48 [.d (.int .i64) (di p0), .d (.slice 106) p1] [] (fun v H => finish ty [38] v H) = s M p0 p1 := by kernel_rfl
noncomputable abbrev t (M : Nat) : List Ent := t48_1 M
theorem t_ok (M : Nat) : AllOk (e M) (tblOf (t M)) := t48_1_ok M
def c : Con := { run := fun ds => match ds with | [p0, p1] => s FUEL p0.i p1 | _ => none, fresh := false, plain := true }
theorem fun_at : Tryd.prog.funcs[48]? = some Tryd.f48 := by kernel_rfl
theorem params : Tryd.f48.params.toList.map ty = [(.int .i64), (.slice 106)] := by kernel_rfl
theorem results : Tryd.f48.resultTypes.toList = [38] := by kernel_rfl
theorem flat : Tryd.f48.resultTypes.toList.all (fun t => K.flat ty 20 (ty t)) = true := by kernel_rfl
theorem ok : ConOk (48, c) := by
  intro fn hfn
  obtain rfl : Tryd.f48 = fn := Option.some.inj (fun_at.symm.trans hfn)
  refine contract_flat (n := 20) hgl (fun _ => flat) (fun ds r hh0 hr => ?_)
  rw [params] at hh0
  obtain ⟨p0, ds0, rfl, h0, hh1⟩ := hass_cons hh0
  obtain ⟨p0, rfl⟩ := has_int h0
  obtain ⟨p1, ds1, rfl, h1, hh2⟩ := hass_cons hh1
  obtain rfl := hass_nil hh2
  refine ⟨e FUEL, DEPTH, tblOf (t FUEL), envOk allNil allNil, rfl, t_ok FUEL, ?_⟩
  rw [params, results]
  exact (run FUEL p0 p1).trans hr
end F48
namespace F78
def cons : List (Nat × Con) := []
def exts : List (Nat × Ext) := []
def h : List (Nat × Nat × Hint) := []
noncomputable def e (M : Nat) : Env := env cons exts h M
noncomputable def t78_0 (_ : Nat) : List Ent := []
theorem t78_0_ok (M : Nat) : AllOk (e M) (tblOf (t78_0 M)) := AllOk.nil
def s (M : Nat) (p0 : Int) : Option D :=
  (cond (ltI p0 32) (some (db true)) (cond (eqI p0 47) (some (db true)) (cond (leI 127 p0) (cond (leI p0 159) (some (db true)) (some (db (eqI p0 65533)))) (some (db (eqI p0 65533))))))
theorem run (M : Nat) (p0 : Int) : callS (e M) (tblOf (t78_0 M)) 6 78 [.d (.int .i32) (D.int .i32 p0)] [] (fun v H => finish ty [4] v H) = s M p0 := by kernel_rfl
noncomputable abbrev t (M : Nat) : List Ent := t78_0 M
theorem t_ok (M : Nat) : AllOk (e M) (tblOf (t M)) := t78_0_ok M
def c : Con := { run := fun ds => match ds with | [p0] => s FUEL p0.i | _ => none, fresh := false, plain := true }
theorem fun_at : Tryd.prog.funcs[78]? = some Tryd.f78 := by kernel_rfl
theorem params : Tryd.f78.params.toList.map ty = [(.int .i32)] := by kernel_rfl
theorem results : Tryd.f78.resultTypes.toList = [4] := by kernel_rfl
theorem flat : Tryd.f78.resultTypes.toList.all (fun t => K.flat ty 20 (ty t)) = true := by kernel_rfl
theorem ok : ConOk (78, c) := by
  intro fn hfn
  obtain rfl : Tryd.f78 = fn := Option.some.inj (fun_at.symm.trans hfn)
  refine contract_flat (n := 20) hgl (fun _ => flat) (fun ds r hh0 hr => ?_)
  rw [params] at hh0
  obtain ⟨p0, ds0, rfl, h0, hh1⟩ := hass_cons hh0
  obtain ⟨p0, rfl⟩ := has_int h0
  obtain rfl := hass_nil hh1
  refine ⟨e FUEL, DEPTH, tblOf (t FUEL), envOk allNil allNil, rfl, t_ok FUEL, ?_⟩
  rw [params, results]
  exact (run FUEL p0).trans hr
end F78
namespace F79
def cons : List (Nat × Con) := []
def exts : List (Nat × Ext) := []
def h : List (Nat × Nat × Hint) := [(79, 3, { live := [3, 5], rows := [], own := false, inpl := false })]
noncomputable def e (M : Nat) : Env := env cons exts h M
noncomputable def t79_0 (_ : Nat) : List Ent := []
theorem t79_0_ok (M : Nat) : AllOk (e M) (tblOf (t79_0 M)) := AllOk.nil
structure S3 where
  i1 : Int
  s2 : ByteArray
  n3 : Nat
inductive X3 where
  | e0 (i1 : Int) (s2 : ByteArray) (n3 : Nat)
def st3 (M : Nat) : S3 → (S3 → Option D) → (X3 → Option D) → Option D
  | ⟨i1, s2, n3⟩, rec, K => (cond (decide (n3 < s2.size)) (rec ⟨(ad .i64 i1 1), s2, (n3 + (Utf8.decode s2 n3).2)⟩) (K (.e0 i1 s2 n3)))
def lv3 : S3 → List Leaf
  | ⟨i1, s2, n3⟩ => [.i i1, .s s2, .n n3]
def of3 : List Leaf → Option S3
  | [.i i1, .s s2, .n n3] => some ⟨i1, s2, n3⟩
  | _ => none
def ex3 (k : Kont) : X3 → Option D
  | .e0 i1 s2 n3 => k (.exit 0) (us 3 ((.d (.int .i64) (di i1)) :: (us 1 ((.iter 0) :: ((.tup [(.d .bool (db false))]) :: ((.d .bool (db false)) :: (us 3 []))))))) [(.iter s2 n3)]
def ps3 : List PV := (up 3 ((.d (.int .i64) (.int .i64)) :: (up 1 ((.iter 0) :: (up 5 [])))))
def qs3 : List PO := [.iter]
noncomputable def sum3 (M : Nat) : Sum := sumS [3, 5] ps3 qs3 [] of3 (st3 M) ex3 M
theorem sok3 (M : Nat) : SumOk (e M) (call (e M) 5) 79 0 (loopAt (e M) 79 3) (sum3 M) :=
  sumOk_st (T := tblOf (t79_0 M)) (n0 := 1) (lv := lv3) (t79_0_ok M) (by kernel_rfl) rfl (by intro ls s h; unfold of3 at h; split at h <;> simp at h; subst h; rfl) (by intro s; kernel_rfl) (by intro s; kernel_rfl) (by intro s nx k; kernel_rfl)
noncomputable def t79_1 (M : Nat) : List Ent := ⟨79, 5, 0, 3, sum3 M⟩ :: t79_0 M
theorem t79_1_ok (M : Nat) : AllOk (e M) (tblOf (t79_1 M)) := (t79_0_ok M).add ⟨79, 5, 0, 3, sum3 M⟩ (by kernel_rfl) (sok3 M)
def s (M : Nat) (p0 : ByteArray) : Option D :=
  (goS (st3 M) M ⟨0, p0, 0⟩ fun x => match x with | .e0 i1 s2 n3 => (some (di i1)))
theorem run (M : Nat) (p0 : ByteArray) : callS (e M) (tblOf (t79_1 M)) 6 79 [.d .str (dS p0)] [] (fun v H => finish ty [3] v H) = s M p0 := by kernel_rfl
noncomputable abbrev t (M : Nat) : List Ent := t79_1 M
theorem t_ok (M : Nat) : AllOk (e M) (tblOf (t M)) := t79_1_ok M
def c : Con := { run := fun ds => match ds with | [p0] => s FUEL p0.s | _ => none, fresh := false, plain := true }
theorem fun_at : Tryd.prog.funcs[79]? = some Tryd.f79 := by kernel_rfl
theorem params : Tryd.f79.params.toList.map ty = [.str] := by kernel_rfl
theorem results : Tryd.f79.resultTypes.toList = [3] := by kernel_rfl
theorem flat : Tryd.f79.resultTypes.toList.all (fun t => K.flat ty 20 (ty t)) = true := by kernel_rfl
theorem ok : ConOk (79, c) := by
  intro fn hfn
  obtain rfl : Tryd.f79 = fn := Option.some.inj (fun_at.symm.trans hfn)
  refine contract_flat (n := 20) hgl (fun _ => flat) (fun ds r hh0 hr => ?_)
  rw [params] at hh0
  obtain ⟨p0, ds0, rfl, h0, hh1⟩ := hass_cons hh0
  obtain ⟨p0, rfl⟩ := has_str h0
  obtain rfl := hass_nil hh1
  refine ⟨e FUEL, DEPTH, tblOf (t FUEL), envOk allNil allNil, rfl, t_ok FUEL, ?_⟩
  rw [params, results]
  exact (run FUEL p0).trans hr
end F79
namespace F49
def cons : List (Nat × Con) := [(78, F78.c), (79, F79.c)]
def exts : List (Nat × Ext) := []
def h : List (Nat × Nat × Hint) := [(103, 2, { live := [1, 2, 10], rows := [], own := false, inpl := false })]
noncomputable def e (M : Nat) : Env := env cons exts h M
noncomputable def t49_0 (_ : Nat) : List Ent := []
theorem t49_0_ok (M : Nat) : AllOk (e M) (tblOf (t49_0 M)) := AllOk.nil
structure S103_2 where
  b2 : Bool
  s3 : ByteArray
  n4 : Nat
inductive X103_2 where
  | e0 (b2 : Bool) (s3 : ByteArray) (n4 : Nat) (r5 : D) (r6 : D)
  | e1 (b2 : Bool) (s3 : ByteArray) (n4 : Nat)
def st103_2 (M : Nat) : S103_2 → (S103_2 → Option D) → (X103_2 → Option D) → Option D
  | ⟨b2, s3, n4⟩, rec, K => (cond (decide (n4 < s3.size)) (bd (F78.s FUEL ((Utf8.decode s3 n4).1 : Int)) fun r5 => (bd (match D.eqv ty eqDepth r5 (db b2) .bool with | some z => some (.bool z) | none => none) fun r6 => (cond r6.b (K (.e0 b2 s3 n4 r5 r6)) (rec ⟨b2, s3, (n4 + (Utf8.decode s3 n4).2)⟩)))) (K (.e1 b2 s3 n4)))
def lv103_2 : S103_2 → List Leaf
  | ⟨b2, s3, n4⟩ => [.b b2, .s s3, .n n4]
def of103_2 : List Leaf → Option S103_2
  | [.b b2, .s s3, .n n4] => some ⟨b2, s3, n4⟩
  | _ => none
def ex103_2 (k : Kont) : X103_2 → Option D
  | .e0 b2 s3 n4 r5 r6 => k .ret (us 1 ((.d .func (D.fn 78)) :: ((.d .bool (db b2)) :: (us 3 ((.d (.int .i64) (di (nI n4))) :: ((.d (.int .i64) (di (nI n4))) :: ((.d (.int .i32) (D.int .i32 ((Utf8.decode s3 n4).1 : Int))) :: (us 1 ((.iter 0) :: ((.tup [(.d .bool (db true)), (.d (.int .i64) (di (nI n4))), (.d (.int .i32) (D.int .i32 ((Utf8.decode s3 n4).1 : Int)))]) :: ((.d .bool (db true)) :: ((.d (.int .i64) (di (nI n4))) :: ((.d (.int .i32) (D.int .i32 ((Utf8.decode s3 n4).1 : Int))) :: ((.d .func (D.fn 78)) :: ((.d (.int .i32) (D.int .i32 ((Utf8.decode s3 n4).1 : Int))) :: ((.d .bool r5) :: ((.d .bool (db b2)) :: ((.d .bool r6) :: ((.d (.int .i64) (di (nI n4))) :: []))))))))))))))))))) [(.iter s3 (n4 + (Utf8.decode s3 n4).2))]
  | .e1 b2 s3 n4 => k (.exit 0) (us 1 ((.d .func (D.fn 78)) :: ((.d .bool (db b2)) :: (us 7 ((.iter 0) :: ((.tup [(.d .bool (db false))]) :: ((.d .bool (db false)) :: (us 8 [])))))))) [(.iter s3 n4)]
def ps103_2 : List PV := (up 1 ((.d .func (.fn 78)) :: ((.d .bool .bool) :: (up 7 ((.iter 0) :: (up 10 []))))))
def qs103_2 : List PO := [.iter]
noncomputable def sum103_2 (M : Nat) : Sum := sumS [1, 2, 10] ps103_2 qs103_2 [] of103_2 (st103_2 M) ex103_2 M
theorem sok103_2 (M : Nat) : SumOk (e M) (call (e M) 3) 103 0 (loopAt (e M) 103 2) (sum103_2 M) :=
  sumOk_st (T := tblOf (t49_0 M)) (n0 := 1) (lv := lv103_2) (t49_0_ok M) (by kernel_rfl) rfl (by intro ls s h; unfold of103_2 at h; split at h <;> simp at h; subst h; rfl) (by intro s; kernel_rfl) (by intro s; kernel_rfl) (by intro s nx k; kernel_rfl)
noncomputable def t49_1 (M : Nat) : List Ent := ⟨103, 3, 0, 2, sum103_2 M⟩ :: t49_0 M
theorem t49_1_ok (M : Nat) : AllOk (e M) (tblOf (t49_1 M)) := (t49_0_ok M).add ⟨103, 3, 0, 2, sum103_2 M⟩ (by kernel_rfl) (sok103_2 M)
def s (M : Nat) (p0 : ByteArray) : Option D :=
  (bd (F79.s FUEL p0) fun r1 => (cond (gtI r1.i 0) (cond (leI r1.i 24) (goS (st103_2 M) M ⟨true, p0, 0⟩ fun x => match x with | .e0 b2 s3 n4 r5 r6 => (cond (ltI (nI n4) 0) (cond (inb 0 p0.size) (cond (neI (byteAt p0 0) 32) (cond (inb (sb .i64 (nI p0.size) 1) p0.size) (some (db (neI (byteAt p0 (sb .i64 (nI p0.size) 1).toNat) 32))) none) (some (db false))) none) (some (db false))) | .e1 b2 s3 n4 => (cond (inb 0 p0.size) (cond (neI (byteAt p0 0) 32) (cond (inb (sb .i64 (nI p0.size) 1) p0.size) (some (db (neI (byteAt p0 (sb .i64 (nI p0.size) 1).toNat) 32))) none) (some (db false))) none)) (some (db false))) (some (db false))))
theorem run (M : Nat) (p0 : ByteArray) : callS (e M) (tblOf (t49_1 M)) 6 49 [.d .str (dS p0)] [] (fun v H => finish ty [4] v H) = s M p0 := by kernel_rfl
noncomputable abbrev t (M : Nat) : List Ent := t49_1 M
theorem t_ok (M : Nat) : AllOk (e M) (tblOf (t M)) := t49_1_ok M
def c : Con := { run := fun ds => match ds with | [p0] => s FUEL p0.s | _ => none, fresh := false, plain := true }
theorem fun_at : Tryd.prog.funcs[49]? = some Tryd.f49 := by kernel_rfl
theorem params : Tryd.f49.params.toList.map ty = [.str] := by kernel_rfl
theorem results : Tryd.f49.resultTypes.toList = [4] := by kernel_rfl
theorem flat : Tryd.f49.resultTypes.toList.all (fun t => K.flat ty 20 (ty t)) = true := by kernel_rfl
theorem ok : ConOk (49, c) := by
  intro fn hfn
  obtain rfl : Tryd.f49 = fn := Option.some.inj (fun_at.symm.trans hfn)
  refine contract_flat (n := 20) hgl (fun _ => flat) (fun ds r hh0 hr => ?_)
  rw [params] at hh0
  obtain ⟨p0, ds0, rfl, h0, hh1⟩ := hass_cons hh0
  obtain ⟨p0, rfl⟩ := has_str h0
  obtain rfl := hass_nil hh1
  refine ⟨e FUEL, DEPTH, tblOf (t FUEL), envOk (allCons F78.ok (allCons F79.ok allNil)) allNil, rfl, t_ok FUEL, ?_⟩
  rw [params, results]
  exact (run FUEL p0).trans hr
end F49
namespace F50
def cons : List (Nat × Con) := []
def exts : List (Nat × Ext) := []
def h : List (Nat × Nat × Hint) := []
noncomputable def e (M : Nat) : Env := env cons exts h M
noncomputable def t50_0 (_ : Nat) : List Ent := []
theorem t50_0_ok (M : Nat) : AllOk (e M) (tblOf (t50_0 M)) := AllOk.nil
def s (M : Nat) (p0 : Int) (p1 : Int) (p2 : Int) : Option D :=
  (cond (leI p1 p0) (some (db (leI p0 p2))) (some (db false)))
theorem run (M : Nat) (p0 : Int) (p1 : Int) (p2 : Int) : callS (e M) (tblOf (t50_0 M)) 6 50 [.d (.int .i64) (di p0), .d (.int .i64) (di p1), .d (.int .i64) (di p2)] [] (fun v H => finish ty [4] v H) = s M p0 p1 p2 := by kernel_rfl
noncomputable abbrev t (M : Nat) : List Ent := t50_0 M
theorem t_ok (M : Nat) : AllOk (e M) (tblOf (t M)) := t50_0_ok M
def c : Con := { run := fun ds => match ds with | [p0, p1, p2] => s FUEL p0.i p1.i p2.i | _ => none, fresh := false, plain := true }
theorem fun_at : Tryd.prog.funcs[50]? = some Tryd.f50 := by kernel_rfl
theorem params : Tryd.f50.params.toList.map ty = [(.int .i64), (.int .i64), (.int .i64)] := by kernel_rfl
theorem results : Tryd.f50.resultTypes.toList = [4] := by kernel_rfl
theorem flat : Tryd.f50.resultTypes.toList.all (fun t => K.flat ty 20 (ty t)) = true := by kernel_rfl
theorem ok : ConOk (50, c) := by
  intro fn hfn
  obtain rfl : Tryd.f50 = fn := Option.some.inj (fun_at.symm.trans hfn)
  refine contract_flat (n := 20) hgl (fun _ => flat) (fun ds r hh0 hr => ?_)
  rw [params] at hh0
  obtain ⟨p0, ds0, rfl, h0, hh1⟩ := hass_cons hh0
  obtain ⟨p0, rfl⟩ := has_int h0
  obtain ⟨p1, ds1, rfl, h1, hh2⟩ := hass_cons hh1
  obtain ⟨p1, rfl⟩ := has_int h1
  obtain ⟨p2, ds2, rfl, h2, hh3⟩ := hass_cons hh2
  obtain ⟨p2, rfl⟩ := has_int h2
  obtain rfl := hass_nil hh3
  refine ⟨e FUEL, DEPTH, tblOf (t FUEL), envOk allNil allNil, rfl, t_ok FUEL, ?_⟩
  rw [params, results]
  exact (run FUEL p0 p1 p2).trans hr
end F50
namespace F28
def cons : List (Nat × Con) := [(47, F47.c), (48, F48.c), (49, F49.c), (50, F50.c)]
def exts : List (Nat × Ext) := []
def h : List (Nat × Nat × Hint) := [(28, 9, { live := [1, 4, 5, 26, 27, 28], rows := [], own := false, inpl := false })]
noncomputable def e (M : Nat) : Env := env cons exts h M
noncomputable def t28_0 (_ : Nat) : List Ent := []
theorem t28_0_ok (M : Nat) : AllOk (e M) (tblOf (t28_0 M)) := AllOk.nil
structure S9 where
  i11 : Int
  d12 : D
  d13 : D
  i14 : Int
  i15 : Int
  d16 : D
inductive X9 where
  | e0 (i11 : Int) (d12 : D) (d13 : D) (i14 : Int) (i15 : Int) (d16 : D)
def st9 (M : Nat) : S9 → (S9 → Option D) → (X9 → Option D) → Option D
  | ⟨i11, d12, d13, i14, i15, d16⟩, rec, K => (cond (ltI i15 i14) (cond (inb i15 d13.elems.length) (cond (isT 107 (ix d13.elems i15.toNat)) (bd (F49.s FUEL (assertD 107 (dS (bs [])) (ix d13.elems i15.toNat)).s) fun r17 => (rec ⟨i11, r17, d13, i14, (ad .i64 i15 1), d16⟩)) (rec ⟨i11, d12, d13, i14, (ad .i64 i15 1), d16⟩)) none) (K (.e0 i11 d12 d13 i14 i15 d16)))
def lv9 : S9 → List Leaf
  | ⟨i11, d12, d13, i14, i15, d16⟩ => [.i i11, .d d12, .d d13, .i i14, .i i15, .d d16]
def of9 : List Leaf → Option S9
  | [.i i11, .d d12, .d d13, .i i14, .i i15, .d d16] => some ⟨i11, d12, d13, i14, i15, d16⟩
  | _ => none
def ex9 (k : Kont) : X9 → Option D
  | .e0 i11 d12 d13 i14 i15 d16 => k (.exit 0) (us 1 ((.ptr 0 [] (.struct [34, 3, 9, 3, 3, 36])) :: (us 2 ((.d (.int .i64) (di i11)) :: ((.d .bool d12) :: (us 20 ((.d (.slice 106) d13) :: ((.d (.int .i64) (di i14)) :: ((.d (.int .i64) (di i15)) :: ((.d .bool (db (ltI i15 i14))) :: (us 33 []))))))))))) [(.var (.struct [34, 3, 9, 3, 3, 36]) (.d (.struct [34, 3, 9, 3, 3, 36]) d16))]
def ps9 : List PV := (up 1 ((.ptr 0 [] (.struct [34, 3, 9, 3, 3, 36])) :: (up 2 ((.d (.int .i64) (.int .i64)) :: ((.d .bool .x) :: (up 20 ((.d (.slice 106) .x) :: ((.d (.int .i64) (.int .i64)) :: ((.d (.int .i64) (.int .i64)) :: (up 34 []))))))))))
def qs9 : List PO := [(.var (.struct [34, 3, 9, 3, 3, 36]) (.d (.struct [34, 3, 9, 3, 3, 36]) .x))]
noncomputable def sum9 (M : Nat) : Sum := sumS [1, 4, 5, 26, 27, 28] ps9 qs9 [] of9 (st9 M) ex9 M
theorem sok9 (M : Nat) : SumOk (e M) (call (e M) 5) 28 0 (loopAt (e M) 28 9) (sum9 M) :=
  sumOk_st (T := tblOf (t28_0 M)) (n0 := 1) (lv := lv9) (t28_0_ok M) (by kernel_rfl) rfl (by intro ls s h; unfold of9 at h; split at h <;> simp at h; subst h; rfl) (by intro s; kernel_rfl) (by intro s; kernel_rfl) (by intro s nx k; kernel_rfl)
noncomputable def t28_1 (M : Nat) : List Ent := ⟨28, 5, 0, 9, sum9 M⟩ :: t28_0 M
theorem t28_1_ok (M : Nat) : AllOk (e M) (tblOf (t28_1 M)) := (t28_0_ok M).add ⟨28, 5, 0, 9, sum9 M⟩ (by kernel_rfl) (sok9 M)
def s (M : Nat) (p0 : D) : Option D :=
  (bd (F47.s FUEL p0) fun r1 => (cond (eqI (nI r1.elems.length) 0) (some (db false)) (bd (F48.s FUEL (p0.at 0).i r1) fun r2 => (bd (match D.eqv ty eqDepth r2 p0 (.struct [34, 3, 9, 3, 3, 36]) with | some z => some (.bool (!z)) | none => none) fun r3 => (cond r3.b (some (db false)) (cond (eqI (p0.at 0).i 1) (goS (st9 M) M ⟨1, (db true), r1, (nI r1.elems.length), 0, p0⟩ fun x => match x with | .e0 i11 d12 d13 i14 i15 d16 => (cond d12.b (cond (eqI (d16.at 0).i 7) (bd (F50.s FUEL (d16.at 3).i 0 1099511627776) fun r18 => (cond r18.b (bd (F50.s FUEL (d16.at 4).i i11 600) fun r19 => (some r19)) (some (db false)))) (bd (F50.s FUEL (d16.at 1).i 1 1099511627776) fun r20 => (cond r20.b (bd (F50.s FUEL (d16.at 3).i 0 1099511627776) fun r21 => (cond r21.b (bd (F50.s FUEL (d16.at 4).i i11 600) fun r22 => (some r22)) (some (db false)))) (some (db false))))) (some (db false)))) (goS (st9 M) M ⟨0, (db true), r1, (nI r1.elems.length), 0, p0⟩ fun x => match x with | .e0 i11 d12 d13 i14 i15 d16 => (cond d12.b (cond (eqI (d16.at 0).i 7) (bd (F50.s FUEL (d16.at 3).i 0 1099511627776) fun r23 => (cond r23.b (bd (F50.s FUEL (d16.at 4).i i11 600) fun r24 => (some r24)) (some (db false)))) (bd (F50.s FUEL (d16.at 1).i 1 1099511627776) fun r25 => (cond r25.b (bd (F50.s FUEL (d16.at 3).i 0 1099511627776) fun r26 => (cond r26.b (bd (F50.s FUEL (d16.at 4).i i11 600) fun r27 => (some r27)) (some (db false)))) (some (db false))))) (some (db false))))))))))
theorem run (M : Nat) (p0 : D) : callS (e M) (tblOf (t28_1 M)) 6 28 [.d (.struct [34, 3, 9, 3, 3, 36]) p0] [] (fun v H => finish ty [4] v H) = s M p0 := by kernel_rfl
noncomputable abbrev t (M : Nat) : List Ent := t28_1 M
theorem t_ok (M : Nat) : AllOk (e M) (tblOf (t M)) := t28_1_ok M
def c : Con := { run := fun ds => match ds with | [p0] => s FUEL p0 | _ => none, fresh := false, plain := true }
theorem fun_at : Tryd.prog.funcs[28]? = some Tryd.f28 := by kernel_rfl
theorem params : Tryd.f28.params.toList.map ty = [(.struct [34, 3, 9, 3, 3, 36])] := by kernel_rfl
theorem results : Tryd.f28.resultTypes.toList = [4] := by kernel_rfl
theorem flat : Tryd.f28.resultTypes.toList.all (fun t => K.flat ty 20 (ty t)) = true := by kernel_rfl
theorem ok : ConOk (28, c) := by
  intro fn hfn
  obtain rfl : Tryd.f28 = fn := Option.some.inj (fun_at.symm.trans hfn)
  refine contract_flat (n := 20) hgl (fun _ => flat) (fun ds r hh0 hr => ?_)
  rw [params] at hh0
  obtain ⟨p0, ds0, rfl, h0, hh1⟩ := hass_cons hh0
  obtain rfl := hass_nil hh1
  refine ⟨e FUEL, DEPTH, tblOf (t FUEL), envOk (allCons F47.ok (allCons F48.ok (allCons F49.ok (allCons F50.ok allNil)))) allNil, rfl, t_ok FUEL, ?_⟩
  rw [params, results]
  exact (run FUEL p0).trans hr
end F28
namespace F34
def cons : List (Nat × Con) := []
def exts : List (Nat × Ext) := []
def h : List (Nat × Nat × Hint) := []
noncomputable def e (M : Nat) : Env := env cons exts h M
noncomputable def t34_0 (_ : Nat) : List Ent := []
theorem t34_0_ok (M : Nat) : AllOk (e M) (tblOf (t34_0 M)) := AllOk.nil
def s (M : Nat) (p0 : D) : Option D :=
  (cond (!p0.nn) (some (.slice false [])) (cond (mx p0.elems.length) (cond ((decide (p0.elems.length = p0.elems.length)) && true) (some (.slice true p0.elems)) none) none))
theorem run (M : Nat) (p0 : D) : callS (e M) (tblOf (t34_0 M)) 6 34 [.d (.slice 44) p0] [] (fun v H => finishFresh ty [25] v H) = s M p0 := by kernel_rfl
noncomputable abbrev t (M : Nat) : List Ent := t34_0 M
theorem t_ok (M : Nat) : AllOk (e M) (tblOf (t M)) := t34_0_ok M
def c : Con := { run := fun ds => match ds with | [p0] => s FUEL p0 | _ => none, fresh := true, plain := false }
theorem fun_at : Tryd.prog.funcs[34]? = some Tryd.f34 := by kernel_rfl
theorem params : Tryd.f34.params.toList.map ty = [(.slice 44)] := by kernel_rfl
theorem results : Tryd.f34.resultTypes.toList = [25] := by kernel_rfl
theorem ok : ConOk (34, c) := by
  intro fn hfn
  obtain rfl : Tryd.f34 = fn := Option.some.inj (fun_at.symm.trans hfn)
  refine contract_of_fresh hgl rfl rfl (fun ds r hh0 hr => ?_)
  rw [params] at hh0
  obtain ⟨p0, ds0, rfl, h0, hh1⟩ := hass_cons hh0
  obtain rfl := hass_nil hh1
  refine ⟨e FUEL, DEPTH, tblOf (t FUEL), envOk allNil allNil, rfl, t_ok FUEL, ?_⟩
  rw [params, results]
  exact (run FUEL p0).trans hr
end F34
namespace F83
def cons : List (Nat × Con) := []
def exts : List (Nat × Ext) := []
def h : List (Nat × Nat × Hint) := []
noncomputable def e (M : Nat) : Env := env cons exts h M
noncomputable def t83_0 (_ : Nat) : List Ent := []
theorem t83_0_ok (M : Nat) : AllOk (e M) (tblOf (t83_0 M)) := AllOk.nil
def s (M : Nat) (p0 : Int) : Option D :=
  (cond (geI p0 0) (some (db (leI p0 1099511627776))) (some (db false)))
theorem run (M : Nat) (p0 : Int) : callS (e M) (tblOf (t83_0 M)) 6 83 [.d (.int .i64) (di p0)] [] (fun v H => finish ty [4] v H) = s M p0 := by kernel_rfl
noncomputable abbrev t (M : Nat) : List Ent := t83_0 M
theorem t_ok (M : Nat) : AllOk (e M) (tblOf (t M)) := t83_0_ok M
def c : Con := { run := fun ds => match ds with | [p0] => s FUEL p0.i | _ => none, fresh := false, plain := true }
theorem fun_at : Tryd.prog.funcs[83]? = some Tryd.f83 := by kernel_rfl
theorem params : Tryd.f83.params.toList.map ty = [(.int .i64)] := by kernel_rfl
theorem results : Tryd.f83.resultTypes.toList = [4] := by kernel_rfl
theorem flat : Tryd.f83.resultTypes.toList.all (fun t => K.flat ty 20 (ty t)) = true := by kernel_rfl
theorem ok : ConOk (83, c) := by
  intro fn hfn
  obtain rfl : Tryd.f83 = fn := Option.some.inj (fun_at.symm.trans hfn)
  refine contract_flat (n := 20) hgl (fun _ => flat) (fun ds r hh0 hr => ?_)
  rw [params] at hh0
  obtain ⟨p0, ds0, rfl, h0, hh1⟩ := hass_cons hh0
  obtain ⟨p0, rfl⟩ := has_int h0
  obtain rfl := hass_nil hh1
  refine ⟨e FUEL, DEPTH, tblOf (t FUEL), envOk allNil allNil, rfl, t_ok FUEL, ?_⟩
  rw [params, results]
  exact (run FUEL p0).trans hr
end F83
namespace F58
def cons : List (Nat × Con) := [(83, F83.c)]
def exts : List (Nat × Ext) := []
def h : List (Nat × Nat × Hint) := []
noncomputable def e (M : Nat) : Env := env cons exts h M
noncomputable def t58_0 (_ : Nat) : List Ent := []
theorem t58_0_ok (M : Nat) : AllOk (e M) (tblOf (t58_0 M)) := AllOk.nil
def s (M : Nat) (p0 : D) (p1 : Int) : Option D :=
  (cond (p0.at 3).b (some (D.tup [p0, (di 5)])) (bd (F83.s FUEL p1) fun r1 => (cond (!r1.b) (some (D.tup [p0, (di 1)])) (some (D.tup [(D.agg ((D.agg (p0.parts.set 3 (db true))).parts.set 4 (di p1))), (di 0)])))))
theorem run (M : Nat) (p0 : D) (p1 : Int) : callS (e M) (tblOf (t58_0 M)) 6 58 [.d (.struct [3, 9, 9, 4, 3, 40]) p0, .d (.int .i64) (di p1)] [] (fun v H => finish ty [42, 28] v H) = s M p0 p1 := by kernel_rfl
noncomputable abbrev t (M : Nat) : List Ent := t58_0 M
theorem t_ok (M : Nat) : AllOk (e M) (tblOf (t M)) := t58_0_ok M
def c : Con := { run := fun ds => match ds with | [p0, p1] => s FUEL p0 p1.i | _ => none, fresh := false, plain := false }
theorem fun_at : Tryd.prog.funcs[58]? = some Tryd.f58 := by kernel_rfl
theorem params : Tryd.f58.params.toList.map ty = [(.struct [3, 9, 9, 4, 3, 40]), (.int .i64)] := by kernel_rfl
theorem results : Tryd.f58.resultTypes.toList = [42, 28] := by kernel_rfl
theorem ok : ConOk (58, c) := by
  intro fn hfn
  obtain rfl : Tryd.f58 = fn := Option.some.inj (fun_at.symm.trans hfn)
  refine contract_flat (n := 20) hgl (fun h => by simp at h) (fun ds r hh0 hr => ?_)
  rw [params] at hh0
  obtain ⟨p0, ds0, rfl, h0, hh1⟩ := hass_cons hh0
  obtain ⟨p1, ds1, rfl, h1, hh2⟩ := hass_cons hh1
  obtain ⟨p1, rfl⟩ := has_int h1
  obtain rfl := hass_nil hh2
  refine ⟨e FUEL, DEPTH, tblOf (t FUEL), envOk (allCons F83.ok allNil) allNil, rfl, t_ok FUEL, ?_⟩
  rw [params, results]
  exact (run FUEL p0 p1).trans hr
end F58
namespace F61
def cons : List (Nat × Con) := [(83, F83.c)]
def exts : List (Nat × Ext) := []
def h : List (Nat × Nat × Hint) := []
noncomputable def e (M : Nat) : Env := env cons exts h M
noncomputable def t61_0 (_ : Nat) : List Ent := []
theorem t61_0_ok (M : Nat) : AllOk (e M) (tblOf (t61_0 M)) := AllOk.nil
def s (M : Nat) (p0 : D) (p1 : Int) : Option D :=
  (cond (!(p0.at 3).b) (some (D.tup [p0, (di 6)])) (bd (F83.s FUEL p1) fun r1 => (cond (!r1.b) (some (D.tup [p0, (di 1)])) (cond (ltI p1 (p0.at 4).i) (some (D.tup [p0, (di 7)])) (some (D.tup [(D.agg (p0.parts.set 4 (di p1))), (di 0)]))))))
theorem run (M : Nat) (p0 : D) (p1 : Int) : callS (e M) (tblOf (t61_0 M)) 6 61 [.d (.struct [3, 9, 9, 4, 3, 40]) p0, .d (.int .i64) (di p1)] [] (fun v H => finish ty [42, 28] v H) = s M p0 p1 := by kernel_rfl
noncomputable abbrev t (M : Nat) : List Ent := t61_0 M
theorem t_ok (M : Nat) : AllOk (e M) (tblOf (t M)) := t61_0_ok M
def c : Con := { run := fun ds => match ds with | [p0, p1] => s FUEL p0 p1.i | _ => none, fresh := false, plain := false }
theorem fun_at : Tryd.prog.funcs[61]? = some Tryd.f61 := by kernel_rfl
theorem params : Tryd.f61.params.toList.map ty = [(.struct [3, 9, 9, 4, 3, 40]), (.int .i64)] := by kernel_rfl
theorem results : Tryd.f61.resultTypes.toList = [42, 28] := by kernel_rfl
theorem ok : ConOk (61, c) := by
  intro fn hfn
  obtain rfl : Tryd.f61 = fn := Option.some.inj (fun_at.symm.trans hfn)
  refine contract_flat (n := 20) hgl (fun h => by simp at h) (fun ds r hh0 hr => ?_)
  rw [params] at hh0
  obtain ⟨p0, ds0, rfl, h0, hh1⟩ := hass_cons hh0
  obtain ⟨p1, ds1, rfl, h1, hh2⟩ := hass_cons hh1
  obtain ⟨p1, rfl⟩ := has_int h1
  obtain rfl := hass_nil hh2
  refine ⟨e FUEL, DEPTH, tblOf (t FUEL), envOk (allCons F83.ok allNil) allNil, rfl, t_ok FUEL, ?_⟩
  rw [params, results]
  exact (run FUEL p0 p1).trans hr
end F61
namespace F89
def cons : List (Nat × Con) := []
def exts : List (Nat × Ext) := []
def h : List (Nat × Nat × Hint) := [(89, 2, { live := [0, 1, 7, 8], rows := [], own := false, inpl := false })]
noncomputable def e (M : Nat) : Env := env cons exts h M
noncomputable def t89_0 (_ : Nat) : List Ent := []
theorem t89_0_ok (M : Nat) : AllOk (e M) (tblOf (t89_0 M)) := AllOk.nil
structure S2 where
  d1 : D
  s2 : ByteArray
  i3 : Int
  i4 : Int
inductive X2 where
  | e0 (d1 : D) (s2 : ByteArray) (i3 : Int) (i4 : Int)
  | e1 (d1 : D) (s2 : ByteArray) (i3 : Int) (i4 : Int)
def st2 (M : Nat) : S2 → (S2 → Option D) → (X2 → Option D) → Option D
  | ⟨d1, s2, i3, i4⟩, rec, K => (cond (ltI i4 i3) (cond (inb i4 d1.elems.length) (cond (eqS s2 (ix d1.elems i4.toNat).s) (K (.e0 d1 s2 i3 i4)) (rec ⟨d1, s2, i3, (ad .i64 i4 1)⟩)) none) (K (.e1 d1 s2 i3 i4)))
def lv2 : S2 → List Leaf
  | ⟨d1, s2, i3, i4⟩ => [.d d1, .s s2, .i i3, .i i4]
def of2 : List Leaf → Option S2
  | [.d d1, .s s2, .i i3, .i i4] => some ⟨d1, s2, i3, i4⟩
  | _ => none
def ex2 (k : Kont) : X2 → Option D
  | .e0 d1 s2 i3 i4 => k .ret ((.d (.slice 9) d1) :: ((.d .str (dS s2)) :: (us 2 ((.d (.int .i64) (di i4)) :: ((.d (.int .i64) (di i4)) :: (us 1 ((.d (.int .i64) (di i3)) :: ((.d (.int .i64) (di i4)) :: ((.d .bool (db (ltI i4 i3))) :: ((.d (.int .i64) (di i4)) :: ((.d .str (dS s2)) :: ((.d (.slice 9) d1) :: ((.d (.int .i64) (di i4)) :: ((.cptr .str (ix d1.elems i4.toNat)) :: ((.d .str (ix d1.elems i4.toNat)) :: ((.d .bool (db (eqS s2 (ix d1.elems i4.toNat).s))) :: ((.d (.int .i64) (di i4)) :: (us 1 [])))))))))))))))))) []
  | .e1 d1 s2 i3 i4 => k (.exit 0) ((.d (.slice 9) d1) :: ((.d .str (dS s2)) :: (us 5 ((.d (.int .i64) (di i3)) :: ((.d (.int .i64) (di i4)) :: ((.d .bool (db (ltI i4 i3))) :: (us 9 []))))))) []
def ps2 : List PV := ((.d (.slice 9) .x) :: ((.d .str .str) :: (up 5 ((.d (.int .i64) (.int .i64)) :: ((.d (.int .i64) (.int .i64)) :: (up 10 []))))))
def qs2 : List PO := []
noncomputable def sum2 (M : Nat) : Sum := sumS [0, 1, 7, 8] ps2 qs2 [] of2 (st2 M) ex2 M
theorem sok2 (M : Nat) : SumOk (e M) (call (e M) 5) 89 0 (loopAt (e M) 89 2) (sum2 M) :=
  sumOk_st (T := tblOf (t89_0 M)) (n0 := 0) (lv := lv2) (t89_0_ok M) (by kernel_rfl) rfl (by intro ls s h; unfold of2 at h; split at h <;> simp at h; subst h; rfl) (by intro s; kernel_rfl) (by intro s; kernel_rfl) (by intro s nx k; kernel_rfl)
noncomputable def t89_1 (M : Nat) : List Ent := ⟨89, 5, 0, 2, sum2 M⟩ :: t89_0 M
theorem t89_1_ok (M : Nat) : AllOk (e M) (tblOf (t89_1 M)) := (t89_0_ok M).add ⟨89, 5, 0, 2, sum2 M⟩ (by kernel_rfl) (sok2 M)
def s (M : Nat) (p0 : D) (p1 : ByteArray) : Option D :=
  (goS (st2 M) M ⟨p0, p1, (nI p0.elems.length), 0⟩ fun x => match x with | .e0 d1 s2 i3 i4 => (some (di i4)) | .e1 d1 s2 i3 i4 => (some (di (-1))))
theorem run (M : Nat) (p0 : D) (p1 : ByteArray) : callS (e M) (tblOf (t89_1 M)) 6 89 [.d (.slice 9) p0, .d .str (dS p1)] [] (fun v H => finish ty [3] v H) = s M p0 p1 := by kernel_rfl
noncomputable abbrev t (M : Nat) : List Ent := t89_1 M
theorem t_ok (M : Nat) : AllOk (e M) (tblOf (t M)) := t89_1_ok M
def c : Con := { run := fun ds => match ds with | [p0, p1] => s FUEL p0 p1.s | _ => none, fresh := false, plain := true }
theorem fun_at : Tryd.prog.funcs[89]? = some Tryd.f89 := by kernel_rfl
theorem params : Tryd.f89.params.toList.map ty = [(.slice 9), .str] := by kernel_rfl
theorem results : Tryd.f89.resultTypes.toList = [3] := by kernel_rfl
theorem flat : Tryd.f89.resultTypes.toList.all (fun t => K.flat ty 20 (ty t)) = true := by kernel_rfl
theorem ok : ConOk (89, c) := by
  intro fn hfn
  obtain rfl : Tryd.f89 = fn := Option.some.inj (fun_at.symm.trans hfn)
  refine contract_flat (n := 20) hgl (fun _ => flat) (fun ds r hh0 hr => ?_)
  rw [params] at hh0
  obtain ⟨p0, ds0, rfl, h0, hh1⟩ := hass_cons hh0
  obtain ⟨p1, ds1, rfl, h1, hh2⟩ := hass_cons hh1
  obtain ⟨p1, rfl⟩ := has_str h1
  obtain rfl := hass_nil hh2
  refine ⟨e FUEL, DEPTH, tblOf (t FUEL), envOk allNil allNil, rfl, t_ok FUEL, ?_⟩
  rw [params, results]
  exact (run FUEL p0 p1).trans hr
end F89
namespace F84
def cons : List (Nat × Con) := [(89, F89.c)]
def exts : List (Nat × Ext) := []
def h : List (Nat × Nat × Hint) := []
noncomputable def e (M : Nat) : Env := env cons exts h M
noncomputable def t84_0 (_ : Nat) : List Ent := []
theorem t84_0_ok (M : Nat) : AllOk (e M) (tblOf (t84_0 M)) := AllOk.nil
def s (M : Nat) (p0 : D) (p1 : ByteArray) : Option D :=
  (bd (F89.s FUEL p0 p1) fun r1 => (some (db (geI r1.i 0))))
theorem run (M : Nat) (p0 : D) (p1 : ByteArray) : callS (e M) (tblOf (t84_0 M)) 6 84 [.d (.slice 9) p0, .d .str (dS p1)] [] (fun v H => finish ty [4] v H) = s M p0 p1 := by kernel_rfl
noncomputable abbrev t (M : Nat) : List Ent := t84_0 M
theorem t_ok (M : Nat) : AllOk (e M) (tblOf (t M)) := t84_0_ok M
def c : Con := { run := fun ds => match ds with | [p0, p1] => s FUEL p0 p1.s | _ => none, fresh := false, plain := true }
theorem fun_at : Tryd.prog.funcs[84]? = some Tryd.f84 := by kernel_rfl
theorem params : Tryd.f84.params.toList.map ty = [(.slice 9), .str] := by kernel_rfl
theorem results : Tryd.f84.resultTypes.toList = [4] := by kernel_rfl
theorem flat : Tryd.f84.resultTypes.toList.all (fun t => K.flat ty 20 (ty t)) = true := by kernel_rfl
theorem ok : ConOk (84, c) := by
  intro fn hfn
  obtain rfl : Tryd.f84 = fn := Option.some.inj (fun_at.symm.trans hfn)
  refine contract_flat (n := 20) hgl (fun _ => flat) (fun ds r hh0 hr => ?_)
  rw [params] at hh0
  obtain ⟨p0, ds0, rfl, h0, hh1⟩ := hass_cons hh0
  obtain ⟨p1, ds1, rfl, h1, hh2⟩ := hass_cons hh1
  obtain ⟨p1, rfl⟩ := has_str h1
  obtain rfl := hass_nil hh2
  refine ⟨e FUEL, DEPTH, tblOf (t FUEL), envOk (allCons F89.ok allNil) allNil, rfl, t_ok FUEL, ?_⟩
  rw [params, results]
  exact (run FUEL p0 p1).trans hr
end F84
namespace F109
def cons : List (Nat × Con) := [(115, decodeC)]
def exts : List (Nat × Ext) := []
def h : List (Nat × Nat × Hint) := []
noncomputable def e (M : Nat) : Env := env cons exts h M
noncomputable def t109_0 (_ : Nat) : List Ent := []
theorem t109_0_ok (M : Nat) : AllOk (e M) (tblOf (t109_0 M)) := AllOk.nil
def s (M : Nat) (p0 : ByteArray) (p1 : Int) (p2 : Int) : Option D :=
  (cond (neI p2 65533) (some (db false)) (cond ((leI 0 p1) && (leI p1 (nI p0.size)) && (leI (nI p0.size) (nI p0.size)) && (leI (nI p0.size) (nI p0.size))) (some (db (ltI ((Lib.decodeGo (p0.extract p1.toNat p0.size)).2 : Int) 2))) none))
theorem run (M : Nat) (p0 : ByteArray) (p1 : Int) (p2 : Int) : callS (e M) (tblOf (t109_0 M)) 6 109 [.d .str (dS p0), .d (.int .i64) (di p1), .d (.int .i32) (D.int .i32 p2)] [] (fun v H => finish ty [4] v H) = s M p0 p1 p2 := by kernel_rfl
noncomputable abbrev t (M : Nat) : List Ent := t109_0 M
theorem t_ok (M : Nat) : AllOk (e M) (tblOf (t M)) := t109_0_ok M
def c : Con := { run := fun ds => match ds with | [p0, p1, p2] => s FUEL p0.s p1.i p2.i | _ => none, fresh := false, plain := true }
theorem fun_at : Tryd.prog.funcs[109]? = some Tryd.f109 := by kernel_rfl
theorem params : Tryd.f109.params.toList.map ty = [.str, (.int .i64), (.int .i32)] := by kernel_rfl
theorem results : Tryd.f109.resultTypes.toList = [4] := by kernel_rfl
theorem flat : Tryd.f109.resultTypes.toList.all (fun t => K.flat ty 20 (ty t)) = true := by kernel_rfl
theorem ok : ConOk (109, c) := by
  intro fn hfn
  obtain rfl : Tryd.f109 = fn := Option.some.inj (fun_at.symm.trans hfn)
  refine contract_flat (n := 20) hgl (fun _ => flat) (fun ds r hh0 hr => ?_)
  rw [params] at hh0
  obtain ⟨p0, ds0, rfl, h0, hh1⟩ := hass_cons hh0
  obtain ⟨p0, rfl⟩ := has_str h0
  obtain ⟨p1, ds1, rfl, h1, hh2⟩ := hass_cons hh1
  obtain ⟨p1, rfl⟩ := has_int h1
  obtain ⟨p2, ds2, rfl, h2, hh3⟩ := hass_cons hh2
  obtain ⟨p2, rfl⟩ := has_int h2
  obtain rfl := hass_nil hh3
  refine ⟨e FUEL, DEPTH, tblOf (t FUEL), envOk (allCons decode_ok allNil) allNil, rfl, t_ok FUEL, ?_⟩
  rw [params, results]
  exact (run FUEL p0 p1 p2).trans hr
end F109
namespace F102
def cons : List (Nat × Con) := [(109, F109.c)]
def exts : List (Nat × Ext) := []
def h : List (Nat × Nat × Hint) := [(102, 3, { live := [0, 3, 7], rows := [(3, 21)], own := false, inpl := false })]
noncomputable def e (M : Nat) : Env := env cons exts h M
noncomputable def t102_0 (_ : Nat) : List Ent := []
theorem t102_0_ok (M : Nat) : AllOk (e M) (tblOf (t102_0 M)) := AllOk.nil
structure S3 where
  s1 : ByteArray
  n2 : Nat
  n3 : Nat
  s4 : ByteArray
  n5 : Nat
  b6 : Bool
  l7 : (List D)
inductive X3 where
  | e0 (s1 : ByteArray) (n2 : Nat) (n3 : Nat) (s4 : ByteArray) (n5 : Nat) (b6 : Bool) (l7 : (List D))
def st3 (M : Nat) : S3 → (S3 → Option D) → (X3 → Option D) → Option D
  | ⟨s1, n2, n3, s4, n5, b6, l7⟩, rec, K => (cond (decide (n5 < s4.size)) (bd (F109.s FUEL s1 (nI n5) ((Utf8.decode s4 n5).1 : Int)) fun r8 => (cond r8.b (cond (inb (nI n5) s1.size) (cond (mx (n3 + 1)) (rec ⟨s1, 0, (n3 + 1), s4, (n5 + (Utf8.decode s4 n5).2), (b6 || true), (ap ((l7.drop n2).take n3) [(D.int .i32 (ad .i32 1114112 (cv .i32 (byteAt s1 n5))))])⟩) none) none) (cond (mx (n3 + 1)) (rec ⟨s1, 0, (n3 + 1), s4, (n5 + (Utf8.decode s4 n5).2), (b6 || true), (ap ((l7.drop n2).take n3) [(D.int .i32 ((Utf8.decode s4 n5).1 : Int))])⟩) none))) (K (.e0 s1 n2 n3 s4 n5 b6 l7)))
def lv3 : S3 → List Leaf
  | ⟨s1, n2, n3, s4, n5, b6, l7⟩ => [.s s1, .n n2, .n n3, .s s4, .n n5, .b b6, .l l7]
def of3 : List Leaf → Option S3
  | [.s s1, .n n2, .n n3, .s s4, .n n5, .b b6, .l l7] => some ⟨s1, n2, n3, s4, n5, b6, l7⟩
  | _ => none
def ex3 (k : Kont) : X3 → Option D
  | .e0 s1 n2 n3 s4 n5 b6 l7 => k (.exit 0) ((.d .str (dS s1)) :: (us 2 ((.sref 1 n2 n3) :: (us 3 ((.iter 0) :: ((.tup [(.d .bool (db false))]) :: ((.d .bool (db false)) :: (us 16 [])))))))) [(.iter s4 n5), (.row 21 true b6 l7)]
def ps3 : List PV := ((.d .str .str) :: (up 2 ((.sref 1) :: (up 3 ((.iter 0) :: (up 18 []))))))
def qs3 : List PO := [.iter, (.row 21 true)]
noncomputable def sum3 (M : Nat) : Sum := sumS [0, 3, 7] ps3 qs3 [(3, 1)] of3 (st3 M) ex3 M
theorem sok3 (M : Nat) : SumOk (e M) (call (e M) 5) 102 0 (loopAt (e M) 102 3) (sum3 M) :=
  sumOk_st (T := tblOf (t102_0 M)) (n0 := 2) (lv := lv3) (t102_0_ok M) (by kernel_rfl) rfl (by intro ls s h; unfold of3 at h; split at h <;> simp at h; subst h; rfl) (by intro s; kernel_rfl) (by intro s; kernel_rfl) (by intro s nx k; kernel_rfl)
noncomputable def t102_1 (M : Nat) : List Ent := ⟨102, 5, 0, 3, sum3 M⟩ :: t102_0 M
theorem t102_1_ok (M : Nat) : AllOk (e M) (tblOf (t102_1 M)) := (t102_0_ok M).add ⟨102, 5, 0, 3, sum3 M⟩ (by kernel_rfl) (sok3 M)
def s (M : Nat) (p0 : ByteArray) : Option D :=
  (goS (st3 M) M ⟨p0, 0, 0, p0, 0, false, []⟩ fun x => match x with | .e0 s1 n2 n3 s4 n5 b6 l7 => (cond ((decide (n3 = l7.length)) && (decide (n2 = 0))) (some (.slice b6 l7)) none))
theorem run (M : Nat) (p0 : ByteArray) : callS (e M) (tblOf (t102_1 M)) 6 102 [.d .str (dS p0)] [] (fun v H => finishFresh ty [145] v H) = s M p0 := by kernel_rfl
noncomputable abbrev t (M : Nat) : List Ent := t102_1 M
theorem t_ok (M : Nat) : AllOk (e M) (tblOf (t M)) := t102_1_ok M
def c : Con := { run := fun ds => match ds with | [p0] => s FUEL p0.s | _ => none, fresh := true, plain := false }
theorem fun_at : Tryd.prog.funcs[102]? = some Tryd.f102 := by kernel_rfl
theorem params : Tryd.f102.params.toList.map ty = [.str] := by kernel_rfl
theorem results : Tryd.f102.resultTypes.toList = [145] := by kernel_rfl
theorem ok : ConOk (102, c) := by
  intro fn hfn
  obtain rfl : Tryd.f102 = fn := Option.some.inj (fun_at.symm.trans hfn)
  refine contract_of_fresh hgl rfl rfl (fun ds r hh0 hr => ?_)
  rw [params] at hh0
  obtain ⟨p0, ds0, rfl, h0, hh1⟩ := hass_cons hh0
  obtain ⟨p0, rfl⟩ := has_str h0
  obtain rfl := hass_nil hh1
  refine ⟨e FUEL, DEPTH, tblOf (t FUEL), envOk (allCons F109.ok allNil) allNil, rfl, t_ok FUEL, ?_⟩
  rw [params, results]
  exact (run FUEL p0).trans hr
end F102
namespace F77
def cons : List (Nat × Con) := [(102, F102.c)]
def exts : List (Nat × Ext) := []
def h : List (Nat × Nat × Hint) := [(77, 3, { live := [5, 6, 13, 14, 15], rows := [], own := false, inpl := false })]
noncomputable def e (M : Nat) : Env := env cons exts h M
noncomputable def t77_0 (_ : Nat) : List Ent := []
theorem t77_0_ok (M : Nat) : AllOk (e M) (tblOf (t77_0 M)) := AllOk.nil
structure S3 where
  n3 : Nat
  n4 : Nat
  n5 : Nat
  n6 : Nat
  n7 : Nat
  n8 : Nat
  i9 : Int
  i10 : Int
  b11 : Bool
  l12 : (List D)
  b13 : Bool
  l14 : (List D)
inductive X3 where
  | e0 (n3 : Nat) (n4 : Nat) (n5 : Nat) (n6 : Nat) (n7 : Nat) (n8 : Nat) (i9 : Int) (i10 : Int) (b11 : Bool) (l12 : (List D)) (b13 : Bool) (l14 : (List D))
  | e1 (n3 : Nat) (n4 : Nat) (n5 : Nat) (n6 : Nat) (n7 : Nat) (n8 : Nat) (i9 : Int) (i10 : Int) (b11 : Bool) (l12 : (List D)) (b13 : Bool) (l14 : (List D))
  | e2 (n3 : Nat) (n4 : Nat) (n5 : Nat) (n6 : Nat) (n7 : Nat) (n8 : Nat) (i9 : Int) (i10 : Int) (b11 : Bool) (l12 : (List D)) (b13 : Bool) (l14 : (List D))
def st3 (M : Nat) : S3 → (S3 → Option D) → (X3 → Option D) → Option D
  | ⟨n3, n4, n5, n6, n7, n8, i9, i10, b11, l12, b13, l14⟩, rec, K => (cond (ltI i10 i9) (cond (inb i10 n8) (cond (geI i10 (nI n6)) (K (.e0 n3 n4 n5 n6 n7 n8 i9 i10 b11 l12 b13 l14)) (cond (inb i10 n6) (cond (neI (ix l12 (n7 + i10.toNat)).i (ix l14 (n5 + i10.toNat)).i) (cond (inb i10 n6) (K (.e1 n3 n4 n5 n6 n7 n8 i9 i10 b11 l12 b13 l14)) none) (rec ⟨n3, n4, n5, n6, n7, n8, i9, (ad .i64 i10 1), b11, l12, b13, l14⟩)) none)) none) (K (.e2 n3 n4 n5 n6 n7 n8 i9 i10 b11 l12 b13 l14)))
def lv3 : S3 → List Leaf
  | ⟨n3, n4, n5, n6, n7, n8, i9, i10, b11, l12, b13, l14⟩ => [.n n3, .n n4, .n n5, .n n6, .n n7, .n n8, .i i9, .i i10, .b b11, .l l12, .b b13, .l l14]
def of3 : List Leaf → Option S3
  | [.n n3, .n n4, .n n5, .n n6, .n n7, .n n8, .i i9, .i i10, .b b11, .l l12, .b b13, .l l14] => some ⟨n3, n4, n5, n6, n7, n8, i9, i10, b11, l12, b13, l14⟩
  | _ => none
def ex3 (k : Kont) : X3 → Option D
  | .e0 n3 n4 n5 n6 n7 n8 i9 i10 b11 l12 b13 l14 => k .ret (us 4 ((.d .bool (db false)) :: ((.sref 0 n3 n4) :: ((.sref 1 n5 n6) :: ((.d (.int .i64) (di i10)) :: ((.d (.int .i32) (ix l12 (n7 + i10.toNat))) :: (us 4 ((.sref 0 n7 n8) :: ((.d (.int .i64) (di i9)) :: ((.d (.int .i64) (di i10)) :: ((.d .bool (db (ltI i10 i9))) :: ((.d (.int .i64) (di i10)) :: ((.ptr 0 [(n7 + i10.toNat)] (.int .i32)) :: ((.d (.int .i32) (ix l12 (n7 + i10.toNat))) :: ((.d (.int .i64) (di i10)) :: ((.sref 1 n5 n6) :: ((.d (.int .i64) (di (nI n6))) :: ((.d .bool (db (geI i10 (nI n6)))) :: (us 18 []))))))))))))))))))) [(.row 21 true b11 l12), (.row 21 true b13 l14)]
  | .e1 n3 n4 n5 n6 n7 n8 i9 i10 b11 l12 b13 l14 => k .ret (us 4 ((.d .bool (db (ltI (ix l12 (n7 + i10.toNat)).i (ix l14 (n5 + i10.toNat)).i))) :: ((.sref 0 n3 n4) :: ((.sref 1 n5 n6) :: ((.d (.int .i64) (di i10)) :: ((.d (.int .i32) (ix l12 (n7 + i10.toNat))) :: (us 4 ((.sref 0 n7 n8) :: ((.d (.int .i64) (di i9)) :: ((.d (.int .i64) (di i10)) :: ((.d .bool (db (ltI i10 i9))) :: ((.d (.int .i64) (di i10)) :: ((.ptr 0 [(n7 + i10.toNat)] (.int .i32)) :: ((.d (.int .i32) (ix l12 (n7 + i10.toNat))) :: ((.d (.int .i64) (di i10)) :: ((.sref 1 n5 n6) :: ((.d (.int .i64) (di (nI n6))) :: ((.d .bool (db (geI i10 (nI n6)))) :: ((.d (.int .i32) (ix l12 (n7 + i10.toNat))) :: ((.sref 1 n5 n6) :: ((.d (.int .i64) (di i10)) :: ((.ptr 1 [(n5 + i10.toNat)] (.int .i32)) :: ((.d (.int .i32) (ix l14 (n5 + i10.toNat))) :: ((.d .bool (db (neI (ix l12 (n7 + i10.toNat)).i (ix l14 (n5 + i10.toNat)).i))) :: ((.d (.int .i32) (ix l12 (n7 + i10.toNat))) :: ((.sref 1 n5 n6) :: ((.d (.int .i64) (di i10)) :: ((.ptr 1 [(n5 + i10.toNat)] (.int .i32)) :: ((.d (.int .i32) (ix l14 (n5 + i10.toNat))) :: ((.d .bool (db (ltI (ix l12 (n7 + i10.toNat)).i (ix l14 (n5 + i10.toNat)).i))) :: (us 6 []))))))))))))))))))))))))))))))) [(.row 21 true b11 l12), (.row 21 true b13 l14)]
  | .e2 n3 n4 n5 n6 n7 n8 i9 i10 b11 l12 b13 l14 => k (.exit 0) (us 5 ((.sref 0 n3 n4) :: ((.sref 1 n5 n6) :: (us 6 ((.sref 0 n7 n8) :: ((.d (.int .i64) (di i9)) :: ((.d (.int .i64) (di i10)) :: ((.d .bool (db (ltI i10 i9))) :: (us 25 []))))))))) [(.row 21 true b11 l12), (.row 21 true b13 l14)]
def ps3 : List PV := (up 5 ((.sref 0) :: ((.sref 1) :: (up 6 ((.sref 0) :: ((.d (.int .i64) (.int .i64)) :: ((.d (.int .i64) (.int .i64)) :: (up 26 []))))))))
def qs3 : List PO := [(.row 21 true), (.row 21 true)]
noncomputable def sum3 (M : Nat) : Sum := sumS [5, 6, 13, 14, 15] ps3 qs3 [] of3 (st3 M) ex3 M
theorem sok3 (M : Nat) : SumOk (e M) (call (e M) 5) 77 0 (loopAt (e M) 77 3) (sum3 M) :=
  sumOk_st (T := tblOf (t77_0 M)) (n0 := 2) (lv := lv3) (t77_0_ok M) (by kernel_rfl) rfl (by intro ls s h; unfold of3 at h; split at h <;> simp at h; subst h; rfl) (by intro s; kernel_rfl) (by intro s; kernel_rfl) (by intro s nx k; kernel_rfl)
noncomputable def t77_1 (M : Nat) : List Ent := ⟨77, 5, 0, 3, sum3 M⟩ :: t77_0 M
theorem t77_1_ok (M : Nat) : AllOk (e M) (tblOf (t77_1 M)) := (t77_0_ok M).add ⟨77, 5, 0, 3, sum3 M⟩ (by kernel_rfl) (sok3 M)
def s (M : Nat) (p0 : ByteArray) (p1 : ByteArray) : Option D :=
  (bd (F102.s FUEL p0) fun r1 => (bd (F102.s FUEL p1) fun r2 => (goS (st3 M) M ⟨0, r1.elems.length, 0, r2.elems.length, 0, r1.elems.length, (nI r1.elems.length), 0, r1.nn, r1.elems, r2.nn, r2.elems⟩ fun x => match x with | .e0 n3 n4 n5 n6 n7 n8 i9 i10 b11 l12 b13 l14 => (some (db false)) | .e1 n3 n4 n5 n6 n7 n8 i9 i10 b11 l12 b13 l14 => (some (db (ltI (ix l12 (n7 + i10.toNat)).i (ix l14 (n5 + i10.toNat)).i))) | .e2 n3 n4 n5 n6 n7 n8 i9 i10 b11 l12 b13 l14 => (some (db (ltI (nI n4) (nI n6)))))))
theorem run (M : Nat) (p0 : ByteArray) (p1 : ByteArray) : callS (e M) (tblOf (t77_1 M)) 6 77 [.d .str (dS p0), .d .str (dS p1)] [] (fun v H => finish ty [4] v H) = s M p0 p1 := by kernel_rfl
noncomputable abbrev t (M : Nat) : List Ent := t77_1 M
theorem t_ok (M : Nat) : AllOk (e M) (tblOf (t M)) := t77_1_ok M
def c : Con := { run := fun ds => match ds with | [p0, p1] => s FUEL p0.s p1.s | _ => none, fresh := false, plain := true }
theorem fun_at : Tryd.prog.funcs[77]? = some Tryd.f77 := by kernel_rfl
theorem params : Tryd.f77.params.toList.map ty = [.str, .str] := by kernel_rfl
theorem results : Tryd.f77.resultTypes.toList = [4] := by kernel_rfl
theorem flat : Tryd.f77.resultTypes.toList.all (fun t => K.flat ty 20 (ty t)) = true := by kernel_rfl
theorem ok : ConOk (77, c) := by
  intro fn hfn
  obtain rfl : Tryd.f77 = fn := Option.some.inj (fun_at.symm.trans hfn)
  refine contract_flat (n := 20) hgl (fun _ => flat) (fun ds r hh0 hr => ?_)
  rw [params] at hh0
  obtain ⟨p0, ds0, rfl, h0, hh1⟩ := hass_cons hh0
  obtain ⟨p0, rfl⟩ := has_str h0
  obtain ⟨p1, ds1, rfl, h1, hh2⟩ := hass_cons hh1
  obtain ⟨p1, rfl⟩ := has_str h1
  obtain rfl := hass_nil hh2
  refine ⟨e FUEL, DEPTH, tblOf (t FUEL), envOk (allCons F102.ok allNil) allNil, rfl, t_ok FUEL, ?_⟩
  rw [params, results]
  exact (run FUEL p0 p1).trans hr
end F77
namespace F86
def cons : List (Nat × Con) := [(77, F77.c)]
def exts : List (Nat × Ext) := []
def h : List (Nat × Nat × Hint) := []
noncomputable def e (M : Nat) : Env := env cons exts h M
noncomputable def t86_0 (_ : Nat) : List Ent := []
theorem t86_0_ok (M : Nat) : AllOk (e M) (tblOf (t86_0 M)) := AllOk.nil
def s (M : Nat) (p0 : ByteArray) (p1 : ByteArray) : Option D :=
  (bd (F77.s FUEL p1 p0) fun r1 => (some (db (!r1.b))))
theorem run (M : Nat) (p0 : ByteArray) (p1 : ByteArray) : callS (e M) (tblOf (t86_0 M)) 6 86 [.d .str (dS p0), .d .str (dS p1)] [] (fun v H => finish ty [4] v H) = s M p0 p1 := by kernel_rfl
noncomputable abbrev t (M : Nat) : List Ent := t86_0 M
theorem t_ok (M : Nat) : AllOk (e M) (tblOf (t M)) := t86_0_ok M
def c : Con := { run := fun ds => match ds with | [p0, p1] => s FUEL p0.s p1.s | _ => none, fresh := false, plain := true }
theorem fun_at : Tryd.prog.funcs[86]? = some Tryd.f86 := by kernel_rfl
theorem params : Tryd.f86.params.toList.map ty = [.str, .str] := by kernel_rfl
theorem results : Tryd.f86.resultTypes.toList = [4] := by kernel_rfl
theorem flat : Tryd.f86.resultTypes.toList.all (fun t => K.flat ty 20 (ty t)) = true := by kernel_rfl
theorem ok : ConOk (86, c) := by
  intro fn hfn
  obtain rfl : Tryd.f86 = fn := Option.some.inj (fun_at.symm.trans hfn)
  refine contract_flat (n := 20) hgl (fun _ => flat) (fun ds r hh0 hr => ?_)
  rw [params] at hh0
  obtain ⟨p0, ds0, rfl, h0, hh1⟩ := hass_cons hh0
  obtain ⟨p0, rfl⟩ := has_str h0
  obtain ⟨p1, ds1, rfl, h1, hh2⟩ := hass_cons hh1
  obtain ⟨p1, rfl⟩ := has_str h1
  obtain rfl := hass_nil hh2
  refine ⟨e FUEL, DEPTH, tblOf (t FUEL), envOk (allCons F77.ok allNil) allNil, rfl, t_ok FUEL, ?_⟩
  rw [params, results]
  exact (run FUEL p0 p1).trans hr
end F86
namespace F88
def cons : List (Nat × Con) := []
def exts : List (Nat × Ext) := []
def h : List (Nat × Nat × Hint) := []
noncomputable def e (M : Nat) : Env := env cons exts h M
noncomputable def t88_0 (_ : Nat) : List Ent := []
theorem t88_0_ok (M : Nat) : AllOk (e M) (tblOf (t88_0 M)) := AllOk.nil
def s (M : Nat) (p0 : D) : Option D :=
  (cond (!p0.nn) (some (.slice false [])) (cond (mx p0.elems.length) (cond ((decide (p0.elems.length = p0.elems.length)) && true) (some (.slice true p0.elems)) none) none))
theorem run (M : Nat) (p0 : D) : callS (e M) (tblOf (t88_0 M)) 6 88 [.d (.slice 9) p0] [] (fun v H => finishFresh ty [40] v H) = s M p0 := by kernel_rfl
noncomputable abbrev t (M : Nat) : List Ent := t88_0 M
theorem t_ok (M : Nat) : AllOk (e M) (tblOf (t M)) := t88_0_ok M
def c : Con := { run := fun ds => match ds with | [p0] => s FUEL p0 | _ => none, fresh := true, plain := false }
theorem fun_at : Tryd.prog.funcs[88]? = some Tryd.f88 := by kernel_rfl
theorem params : Tryd.f88.params.toList.map ty = [(.slice 9)] := by kernel_rfl
theorem results : Tryd.f88.resultTypes.toList = [40] := by kernel_rfl
theorem ok : ConOk (88, c) := by
  intro fn hfn
  obtain rfl : Tryd.f88 = fn := Option.some.inj (fun_at.symm.trans hfn)
  refine contract_of_fresh hgl rfl rfl (fun ds r hh0 hr => ?_)
  rw [params] at hh0
  obtain ⟨p0, ds0, rfl, h0, hh1⟩ := hass_cons hh0
  obtain rfl := hass_nil hh1
  refine ⟨e FUEL, DEPTH, tblOf (t FUEL), envOk allNil allNil, rfl, t_ok FUEL, ?_⟩
  rw [params, results]
  exact (run FUEL p0).trans hr
end F88
namespace F63
def cons : List (Nat × Con) := [(49, F49.c), (77, F77.c), (84, F84.c), (88, F88.c)]
def exts : List (Nat × Ext) := [(87, insertX 9)]
def h : List (Nat × Nat × Hint) := [(63, 12, { live := [], rows := [], own := true, inpl := false }), (85, 2, { live := [0, 1, 7, 8], rows := [], own := false, inpl := false })]
noncomputable def e (M : Nat) : Env := env cons exts h M
noncomputable def t63_0 (_ : Nat) : List Ent := []
theorem t63_0_ok (M : Nat) : AllOk (e M) (tblOf (t63_0 M)) := AllOk.nil
structure S85_2 where
  d3 : D
  s4 : ByteArray
  i5 : Int
  i6 : Int
  d7 : D
  i8 : Int
  s9 : ByteArray
  s10 : ByteArray
  b11 : Bool
  i12 : Int
  b13 : Bool
  l14 : (List D)
inductive X85_2 where
  | e0 (d3 : D) (s4 : ByteArray) (i5 : Int) (i6 : Int) (d7 : D) (i8 : Int) (s9 : ByteArray) (s10 : ByteArray) (b11 : Bool) (i12 : Int) (b13 : Bool) (l14 : (List D)) (r15 : D)
  | e1 (d3 : D) (s4 : ByteArray) (i5 : Int) (i6 : Int) (d7 : D) (i8 : Int) (s9 : ByteArray) (s10 : ByteArray) (b11 : Bool) (i12 : Int) (b13 : Bool) (l14 : (List D))
def st85_2 (M : Nat) : S85_2 → (S85_2 → Option D) → (X85_2 → Option D) → Option D
  | ⟨d3, s4, i5, i6, d7, i8, s9, s10, b11, i12, b13, l14⟩, rec, K => (cond (ltI i6 i5) (cond (inb i6 d3.elems.length) (bd (F77.s FUEL (ix d3.elems i6.toNat).s s4) fun r15 => (cond (!r15.b) (K (.e0 d3 s4 i5 i6 d7 i8 s9 s10 b11 i12 b13 l14 r15)) (rec ⟨d3, s4, i5, (ad .i64 i6 1), d7, i8, s9, s10, b11, i12, b13, l14⟩))) none) (K (.e1 d3 s4 i5 i6 d7 i8 s9 s10 b11 i12 b13 l14)))
def lv85_2 : S85_2 → List Leaf
  | ⟨d3, s4, i5, i6, d7, i8, s9, s10, b11, i12, b13, l14⟩ => [.d d3, .s s4, .i i5, .i i6, .d d7, .i i8, .s s9, .s s10, .b b11, .i i12, .b b13, .l l14]
def of85_2 : List Leaf → Option S85_2
  | [.d d3, .s s4, .i i5, .i i6, .d d7, .i i8, .s s9, .s s10, .b b11, .i i12, .b b13, .l l14] => some ⟨d3, s4, i5, i6, d7, i8, s9, s10, b11, i12, b13, l14⟩
  | _ => none
def ex85_2 (k : Kont) : X85_2 → Option D
  | .e0 d3 s4 i5 i6 d7 i8 s9 s10 b11 i12 b13 l14 r15 => k .ret ((.d (.slice 9) d3) :: ((.func (.func 86) [(.d .str (dS s4))] []) :: (us 2 ((.d (.int .i64) (di i6)) :: ((.d (.int .i64) (di i6)) :: (us 1 ((.d (.int .i64) (di i5)) :: ((.d (.int .i64) (di i6)) :: ((.d .bool (db (ltI i6 i5))) :: ((.d (.int .i64) (di i6)) :: ((.func (.func 86) [(.d .str (dS s4))] []) :: ((.d (.slice 9) d3) :: ((.d (.int .i64) (di i6)) :: ((.cptr .str (ix d3.elems i6.toNat)) :: ((.d .str (ix d3.elems i6.toNat)) :: ((.d .bool (db (!r15.b))) :: ((.d (.int .i64) (di i6)) :: (us 1 [])))))))))))))))))) [(.var (.struct [3, 9, 9, 4, 3, 40]) (.d (.struct [3, 9, 9, 4, 3, 40]) d7)), (.var (.struct [3, 9, 9, 4, 3, 40]) (.d (.struct [3, 9, 9, 4, 3, 40]) (da [(di i8), (dS s9), (dS s10), (db b11), (di i12), (dl b13 l14)])))]
  | .e1 d3 s4 i5 i6 d7 i8 s9 s10 b11 i12 b13 l14 => k (.exit 0) ((.d (.slice 9) d3) :: ((.func (.func 86) [(.d .str (dS s4))] []) :: (us 5 ((.d (.int .i64) (di i5)) :: ((.d (.int .i64) (di i6)) :: ((.d .bool (db (ltI i6 i5))) :: (us 9 []))))))) [(.var (.struct [3, 9, 9, 4, 3, 40]) (.d (.struct [3, 9, 9, 4, 3, 40]) d7)), (.var (.struct [3, 9, 9, 4, 3, 40]) (.d (.struct [3, 9, 9, 4, 3, 40]) (da [(di i8), (dS s9), (dS s10), (db b11), (di i12), (dl b13 l14)])))]
def ps85_2 : List PV := ((.d (.slice 9) .x) :: ((.func 86 [(.d .str .str)] []) :: (up 5 ((.d (.int .i64) (.int .i64)) :: ((.d (.int .i64) (.int .i64)) :: (up 10 []))))))
def qs85_2 : List PO := [(.var (.struct [3, 9, 9, 4, 3, 40]) (.d (.struct [3, 9, 9, 4, 3, 40]) .x)), (.var (.struct [3, 9, 9, 4, 3, 40]) (.d (.struct [3, 9, 9, 4, 3, 40]) (.agg [(.int .i64), .str, .str, .bool, (.int .i64), .slice])))]
noncomputable def sum85_2 (M : Nat) : Sum := sumS [0, 1, 7, 8] ps85_2 qs85_2 [] of85_2 (st85_2 M) ex85_2 M
theorem sok85_2 (M : Nat) : SumOk (e M) (call (e M) 4) 85 2 (loopAt (e M) 85 2) (sum85_2 M) :=
  sumOk_st (T := tblOf (t63_0 M)) (n0 := 2) (lv := lv85_2) (t63_0_ok M) (by kernel_rfl) rfl (by intro ls s h; unfold of85_2 at h; split at h <;> simp at h; subst h; rfl) (by intro s; kernel_rfl) (by intro s; kernel_rfl) (by intro s nx k; kernel_rfl)
noncomputable def t63_1 (M : Nat) : List Ent := ⟨85, 4, 2, 2, sum85_2 M⟩ :: t63_0 M
theorem t63_1_ok (M : Nat) : AllOk (e M) (tblOf (t63_1 M)) := (t63_0_ok M).add ⟨85, 4, 2, 2, sum85_2 M⟩ (by kernel_rfl) (sok85_2 M)
def s (M : Nat) (p0 : D) (p1 : ByteArray) : Option D :=
  (cond (!(p0.at 3).b) (some (D.tup [p0, (di 6)])) (bd (F49.s FUEL p1) fun r1 => (cond (!r1.b) (some (D.tup [p0, (di 2)])) (bd (F84.s FUEL (p0.at 5) p1) fun r2 => (cond r2.b (some (D.tup [p0, (di 4)])) (cond (geI (nI (p0.at 5).elems.length) 4) (some (D.tup [p0, (di 10)])) (goS (st85_2 M) M ⟨(p0.at 5), p1, (nI (p0.at 5).elems.length), 0, p0, 0, (bs []), (bs []), false, 0, false, []⟩ fun x => match x with | .e0 d3 s4 i5 i6 d7 i8 s9 s10 b11 i12 b13 l14 r15 => (cond (ltI i6 0) (bd (F88.s FUEL (d7.at 5)) fun r16 => (cond (true && true && true && (leI 0 (nI (d7.at 5).elems.length)) && (leI (nI (d7.at 5).elems.length) (nI r16.elems.length)) && (mx (r16.elems.length + 1))) (some (D.tup [(da [(d7.at 0), (d7.at 1), (d7.at 2), (d7.at 3), (d7.at 4), (dl true (((ap (ap (((r16.elems.drop 0).take r16.elems.length).take (d7.at 5).elems.length) [(dS p1)]) (((r16.elems.drop 0).take r16.elems.length).drop (d7.at 5).elems.length)).drop 0).take (r16.elems.length + 1)))]), (di 0)])) none)) (bd (F88.s FUEL (d7.at 5)) fun r17 => (cond (true && true && true && (leI 0 i6) && (leI i6 (nI r17.elems.length)) && (mx (r17.elems.length + 1))) (some (D.tup [(da [(d7.at 0), (d7.at 1), (d7.at 2), (d7.at 3), (d7.at 4), (dl true (((ap (ap (((r17.elems.drop 0).take r17.elems.length).take i6.toNat) [(dS p1)]) (((r17.elems.drop 0).take r17.elems.length).drop i6.toNat)).drop 0).take (r17.elems.length + 1)))]), (di 0)])) none))) | .e1 d3 s4 i5 i6 d7 i8 s9 s10 b11 i12 b13 l14 => (bd (F88.s FUEL (d7.at 5)) fun r18 => (cond (true && true && true && (leI 0 (nI (d7.at 5).elems.length)) && (leI (nI (d7.at 5).elems.length) (nI r18.elems.length)) && (mx (r18.elems.length + 1))) (some (D.tup [(da [(d7.at 0), (d7.at 1), (d7.at 2), (d7.at 3), (d7.at 4), (dl true (((ap (ap (((r18.elems.drop 0).take r18.elems.length).take (d7.at 5).elems.length) [(dS p1)]) (((r18.elems.drop 0).take r18.elems.length).drop (d7.at 5).elems.length)).drop 0).take (r18.elems.length + 1)))]), (di 0)])) none)))))))))
theorem run (M : Nat) (p0 : D) (p1 : ByteArray) : callS (e M) (tblOf (t63_1 M)) 6 63 [.d (.struct [3, 9, 9, 4, 3, 40]) p0, .d .str (dS p1)] [] (fun v H => finish ty [42, 28] v H) = s M p0 p1 := by kernel_rfl
noncomputable abbrev t (M : Nat) : List Ent := t63_1 M
theorem t_ok (M : Nat) : AllOk (e M) (tblOf (t M)) := t63_1_ok M
def c : Con := { run := fun ds => match ds with | [p0, p1] => s FUEL p0 p1.s | _ => none, fresh := false, plain := false }
theorem fun_at : Tryd.prog.funcs[63]? = some Tryd.f63 := by kernel_rfl
theorem params : Tryd.f63.params.toList.map ty = [(.struct [3, 9, 9, 4, 3, 40]), .str] := by kernel_rfl
theorem results : Tryd.f63.resultTypes.toList = [42, 28] := by kernel_rfl
theorem ok : ConOk (63, c) := by
  intro fn hfn
  obtain rfl : Tryd.f63 = fn := Option.some.inj (fun_at.symm.trans hfn)
  refine contract_flat (n := 20) hgl (fun h => by simp at h) (fun ds r hh0 hr => ?_)
  rw [params] at hh0
  obtain ⟨p0, ds0, rfl, h0, hh1⟩ := hass_cons hh0
  obtain ⟨p1, ds1, rfl, h1, hh2⟩ := hass_cons hh1
  obtain ⟨p1, rfl⟩ := has_str h1
  obtain rfl := hass_nil hh2
  refine ⟨e FUEL, DEPTH, tblOf (t FUEL), envOk (allCons F49.ok (allCons F77.ok (allCons F84.ok (allCons F88.ok allNil)))) (allCons insert_ok allNil), rfl, t_ok FUEL, ?_⟩
  rw [params, results]
  exact (run FUEL p0 p1).trans hr
end F63
namespace F65
def cons : List (Nat × Con) := [(88, F88.c), (89, F89.c)]
def exts : List (Nat × Ext) := []
def h : List (Nat × Nat × Hint) := [(90, 5, { live := [], rows := [], own := false, inpl := true })]
noncomputable def e (M : Nat) : Env := env cons exts h M
noncomputable def t65_0 (_ : Nat) : List Ent := []
theorem t65_0_ok (M : Nat) : AllOk (e M) (tblOf (t65_0 M)) := AllOk.nil
def s (M : Nat) (p0 : D) (p1 : ByteArray) : Option D :=
  (bd (F89.s FUEL (p0.at 5) p1) fun r1 => (cond (ltI r1.i 0) (some (D.tup [p0, (di 3)])) (bd (F88.s FUEL (p0.at 5)) fun r2 => (cond ((leI 0 r1.i) && (leI r1.i (ad .i64 r1.i 1)) && (leI (ad .i64 r1.i 1) (nI r2.elems.length)) && (leI (nI r2.elems.length) (nI r2.elems.length)) && (eqN (0 + r2.elems.length) r2.elems.length)) (cond (eqI r1.i (ad .i64 r1.i 1)) (some (D.tup [(da [(p0.at 0), (p0.at 1), (p0.at 2), (p0.at 3), (p0.at 4), (dl r2.nn ((r2.elems.drop 0).take r2.elems.length))]), (di 0)])) (cond (true && (leI 0 r1.i) && (leN (0 + (r1.i).toNat) r2.elems.length)) (cond ((leI 0 (ad .i64 r1.i 1)) && (leI (ad .i64 r1.i 1) (nI r2.elems.length)) && (leN (0 + r2.elems.length) r2.elems.length)) (cond (leN ((0 + ((r1.i).toNat - 0)) + ((r2.elems.drop (0 + (ad .i64 r1.i 1).toNat)).take (r2.elems.length - (ad .i64 r1.i 1).toNat)).length) r2.elems.length) (cond ((leI 0 (nI (((r1.i).toNat - 0) + ((r2.elems.drop (0 + (ad .i64 r1.i 1).toNat)).take (r2.elems.length - (ad .i64 r1.i 1).toNat)).length))) && (leI (nI (((r1.i).toNat - 0) + ((r2.elems.drop (0 + (ad .i64 r1.i 1).toNat)).take (r2.elems.length - (ad .i64 r1.i 1).toNat)).length)) (nI r2.elems.length)) && (leN (0 + r2.elems.length) (ap (ap (r2.elems.take (0 + ((r1.i).toNat - 0))) ((r2.elems.drop (0 + (ad .i64 r1.i 1).toNat)).take (r2.elems.length - (ad .i64 r1.i 1).toNat))) (r2.elems.drop ((0 + ((r1.i).toNat - 0)) + ((r2.elems.drop (0 + (ad .i64 r1.i 1).toNat)).take (r2.elems.length - (ad .i64 r1.i 1).toNat)).length))).length)) (some (D.tup [(da [(p0.at 0), (p0.at 1), (p0.at 2), (p0.at 3), (p0.at 4), (dl r2.nn (((ap (ap ((ap (ap (r2.elems.take (0 + ((r1.i).toNat - 0))) ((r2.elems.drop (0 + (ad .i64 r1.i 1).toNat)).take (r2.elems.length - (ad .i64 r1.i 1).toNat))) (r2.elems.drop ((0 + ((r1.i).toNat - 0)) + ((r2.elems.drop (0 + (ad .i64 r1.i 1).toNat)).take (r2.elems.length - (ad .i64 r1.i 1).toNat)).length))).take (0 + (((r1.i).toNat - 0) + ((r2.elems.drop (0 + (ad .i64 r1.i 1).toNat)).take (r2.elems.length - (ad .i64 r1.i 1).toNat)).length))) (rp (r2.elems.length - (((r1.i).toNat - 0) + ((r2.elems.drop (0 + (ad .i64 r1.i 1).toNat)).take (r2.elems.length - (ad .i64 r1.i 1).toNat)).length)) (dS (bs [])))) ((ap (ap (r2.elems.take (0 + ((r1.i).toNat - 0))) ((r2.elems.drop (0 + (ad .i64 r1.i 1).toNat)).take (r2.elems.length - (ad .i64 r1.i 1).toNat))) (r2.elems.drop ((0 + ((r1.i).toNat - 0)) + ((r2.elems.drop (0 + (ad .i64 r1.i 1).toNat)).take (r2.elems.length - (ad .i64 r1.i 1).toNat)).length))).drop ((0 + (((r1.i).toNat - 0) + ((r2.elems.drop (0 + (ad .i64 r1.i 1).toNat)).take (r2.elems.length - (ad .i64 r1.i 1).toNat)).length)) + (r2.elems.length - (((r1.i).toNat - 0) + ((r2.elems.drop (0 + (ad .i64 r1.i 1).toNat)).take (r2.elems.length - (ad .i64 r1.i 1).toNat)).length))))).drop 0).take (((r1.i).toNat - 0) + ((r2.elems.drop (0 + (ad .i64 r1.i 1).toNat)).take (r2.elems.length - (ad .i64 r1.i 1).toNat)).length)))]), (di 0)])) none) none) none) none)) none))))
theorem run (M : Nat) (p0 : D) (p1 : ByteArray) : callS (e M) (tblOf (t65_0 M)) 6 65 [.d (.struct [3, 9, 9, 4, 3, 40]) p0, .d .str (dS p1)] [] (fun v H => finish ty [42, 28] v H) = s M p0 p1 := by kernel_rfl
noncomputable abbrev t (M : Nat) : List Ent := t65_0 M
theorem t_ok (M : Nat) : AllOk (e M) (tblOf (t M)) := t65_0_ok M
def c : Con := { run := fun ds => match ds with | [p0, p1] => s FUEL p0 p1.s | _ => none, fresh := false, plain := false }
theorem fun_at : Tryd.prog.funcs[65]? = some Tryd.f65 := by kernel_rfl
theorem params : Tryd.f65.params.toList.map ty = [(.struct [3, 9, 9, 4, 3, 40]), .str] := by kernel_rfl
theorem results : Tryd.f65.resultTypes.toList = [42, 28] := by kernel_rfl
theorem ok : ConOk (65, c) := by
  intro fn hfn
  obtain rfl : Tryd.f65 = fn := Option.some.inj (fun_at.symm.trans hfn)
  refine contract_flat (n := 20) hgl (fun h => by simp at h) (fun ds r hh0 hr => ?_)
  rw [params] at hh0
  obtain ⟨p0, ds0, rfl, h0, hh1⟩ := hass_cons hh0
  obtain ⟨p1, ds1, rfl, h1, hh2⟩ := hass_cons hh1
  obtain ⟨p1, rfl⟩ := has_str h1
  obtain rfl := hass_nil hh2
  refine ⟨e FUEL, DEPTH, tblOf (t FUEL), envOk (allCons F88.ok (allCons F89.ok allNil)) allNil, rfl, t_ok FUEL, ?_⟩
  rw [params, results]
  exact (run FUEL p0 p1).trans hr
end F65
namespace F44
def cons : List (Nat × Con) := []
def exts : List (Nat × Ext) := []
def h : List (Nat × Nat × Hint) := []
noncomputable def e (M : Nat) : Env := env cons exts h M
noncomputable def t44_0 (_ : Nat) : List Ent := []
theorem t44_0_ok (M : Nat) : AllOk (e M) (tblOf (t44_0 M)) := AllOk.nil
def s (M : Nat) (p0 : D) (p1 : Int) : Option D :=
  (cond (!(p0.at 3).b) (some (di 6)) (cond (ltI p1 (p0.at 4).i) (some (di 8)) (cond (gtI (nI (p0.at 5).elems.length) 0) (some (di 9)) (some (di 0)))))
theorem run (M : Nat) (p0 : D) (p1 : Int) : callS (e M) (tblOf (t44_0 M)) 6 44 [.d (.struct [3, 9, 9, 4, 3, 40]) p0, .d (.int .i64) (di p1)] [] (fun v H => finish ty [28] v H) = s M p0 p1 := by kernel_rfl
noncomputable abbrev t (M : Nat) : List Ent := t44_0 M
theorem t_ok (M : Nat) : AllOk (e M) (tblOf (t M)) := t44_0_ok M
def c : Con := { run := fun ds => match ds with | [p0, p1] => s FUEL p0 p1.i | _ => none, fresh := false, plain := true }
theorem fun_at : Tryd.prog.funcs[44]? = some Tryd.f44 := by kernel_rfl
theorem params : Tryd.f44.params.toList.map ty = [(.struct [3, 9, 9, 4, 3, 40]), (.int .i64)] := by kernel_rfl
theorem results : Tryd.f44.resultTypes.toList = [28] := by kernel_rfl
theorem flat : Tryd.f44.resultTypes.toList.all (fun t => K.flat ty 20 (ty t)) = true := by kernel_rfl
theorem ok : ConOk (44, c) := by
  intro fn hfn
  obtain rfl : Tryd.f44 = fn := Option.some.inj (fun_at.symm.trans hfn)
  refine contract_flat (n := 20) hgl (fun _ => flat) (fun ds r hh0 hr => ?_)
  rw [params] at hh0
  obtain ⟨p0, ds0, rfl, h0, hh1⟩ := hass_cons hh0
  obtain ⟨p1, ds1, rfl, h1, hh2⟩ := hass_cons hh1
  obtain ⟨p1, rfl⟩ := has_int h1
  obtain rfl := hass_nil hh2
  refine ⟨e FUEL, DEPTH, tblOf (t FUEL), envOk allNil allNil, rfl, t_ok FUEL, ?_⟩
  rw [params, results]
  exact (run FUEL p0 p1).trans hr
end F44
namespace F29
def cons : List (Nat × Con) := []
def exts : List (Nat × Ext) := []
def h : List (Nat × Nat × Hint) := [(51, 2, { live := [0, 1, 7, 8], rows := [], own := false, inpl := false })]
noncomputable def e (M : Nat) : Env := env cons exts h M
noncomputable def t29_0 (_ : Nat) : List Ent := []
theorem t29_0_ok (M : Nat) : AllOk (e M) (tblOf (t29_0 M)) := AllOk.nil
structure S51_2 where
  d1 : D
  i2 : Int
  i3 : Int
  d4 : D
  i5 : Int
inductive X51_2 where
  | e0 (d1 : D) (i2 : Int) (i3 : Int) (d4 : D) (i5 : Int)
  | e1 (d1 : D) (i2 : Int) (i3 : Int) (d4 : D) (i5 : Int)
def st51_2 (M : Nat) : S51_2 → (S51_2 → Option D) → (X51_2 → Option D) → Option D
  | ⟨d1, i2, i3, d4, i5⟩, rec, K => (cond (ltI i3 i2) (cond (inb i3 d1.elems.length) (cond (eqI (((ix d1.elems i3.toNat).at 0).at 0).i i5) (K (.e0 d1 i2 i3 d4 i5)) (rec ⟨d1, i2, (ad .i64 i3 1), d4, i5⟩)) none) (K (.e1 d1 i2 i3 d4 i5)))
def lv51_2 : S51_2 → List Leaf
  | ⟨d1, i2, i3, d4, i5⟩ => [.d d1, .i i2, .i i3, .d d4, .i i5]
def of51_2 : List Leaf → Option S51_2
  | [.d d1, .i i2, .i i3, .d d4, .i i5] => some ⟨d1, i2, i3, d4, i5⟩
  | _ => none
def ex51_2 (k : Kont) : X51_2 → Option D
  | .e0 d1 i2 i3 d4 i5 => k .ret ((.d (.slice 44) d1) :: ((.func (.func 52) [] [(.ptr 1 [] (.int .i64))]) :: (us 2 ((.d (.int .i64) (di i3)) :: ((.d (.int .i64) (di i3)) :: (us 1 ((.d (.int .i64) (di i2)) :: ((.d (.int .i64) (di i3)) :: ((.d .bool (db (ltI i3 i2))) :: ((.d (.int .i64) (di i3)) :: ((.func (.func 52) [] [(.ptr 1 [] (.int .i64))]) :: ((.d (.slice 44) d1) :: ((.d (.int .i64) (di i3)) :: ((.cptr (.struct [42, 3, 36]) (ix d1.elems i3.toNat)) :: ((.d (.struct [42, 3, 36]) (ix d1.elems i3.toNat)) :: ((.d .bool (db (eqI (((ix d1.elems i3.toNat).at 0).at 0).i i5))) :: ((.d (.int .i64) (di i3)) :: (us 1 [])))))))))))))))))) [(.var (.struct [25, 3, 3]) (.d (.struct [25, 3, 3]) d4)), (.var (.int .i64) (.d (.int .i64) (di i5))), (.var (.struct [42, 3, 36]) (.d (.struct [42, 3, 36]) (ix d1.elems i3.toNat)))]
  | .e1 d1 i2 i3 d4 i5 => k (.exit 0) ((.d (.slice 44) d1) :: ((.func (.func 52) [] [(.ptr 1 [] (.int .i64))]) :: (us 5 ((.d (.int .i64) (di i2)) :: ((.d (.int .i64) (di i3)) :: ((.d .bool (db (ltI i3 i2))) :: (us 9 []))))))) [(.var (.struct [25, 3, 3]) (.d (.struct [25, 3, 3]) d4)), (.var (.int .i64) (.d (.int .i64) (di i5)))]
def ps51_2 : List PV := ((.d (.slice 44) .x) :: ((.func 52 [] [(.ptr 1 [] (.int .i64))]) :: (up 5 ((.d (.int .i64) (.int .i64)) :: ((.d (.int .i64) (.int .i64)) :: (up 10 []))))))
def qs51_2 : List PO := [(.var (.struct [25, 3, 3]) (.d (.struct [25, 3, 3]) .x)), (.var (.int .i64) (.d (.int .i64) (.int .i64)))]
noncomputable def sum51_2 (M : Nat) : Sum := sumS [0, 1, 7, 8] ps51_2 qs51_2 [] of51_2 (st51_2 M) ex51_2 M
theorem sok51_2 (M : Nat) : SumOk (e M) (call (e M) 4) 51 2 (loopAt (e M) 51 2) (sum51_2 M) :=
  sumOk_st (T := tblOf (t29_0 M)) (n0 := 2) (lv := lv51_2) (t29_0_ok M) (by kernel_rfl) rfl (by intro ls s h; unfold of51_2 at h; split at h <;> simp at h; subst h; rfl) (by intro s; kernel_rfl) (by intro s; kernel_rfl) (by intro s nx k; kernel_rfl)
noncomputable def t29_1 (M : Nat) : List Ent := ⟨51, 4, 2, 2, sum51_2 M⟩ :: t29_0 M
theorem t29_1_ok (M : Nat) : AllOk (e M) (tblOf (t29_1 M)) := (t29_0_ok M).add ⟨51, 4, 2, 2, sum51_2 M⟩ (by kernel_rfl) (sok51_2 M)
def s (M : Nat) (p0 : D) (p1 : Int) : Option D :=
  (goS (st51_2 M) M ⟨(p0.at 0), (nI (p0.at 0).elems.length), 0, p0, p1⟩ fun x => match x with | .e0 d1 i2 i3 d4 i5 => (some (di i3)) | .e1 d1 i2 i3 d4 i5 => (some (di (-1))))
theorem run (M : Nat) (p0 : D) (p1 : Int) : callS (e M) (tblOf (t29_1 M)) 6 29 [.d (.struct [25, 3, 3]) p0, .d (.int .i64) (di p1)] [] (fun v H => finish ty [3] v H) = s M p0 p1 := by kernel_rfl
noncomputable abbrev t (M : Nat) : List Ent := t29_1 M
theorem t_ok (M : Nat) : AllOk (e M) (tblOf (t M)) := t29_1_ok M
def c : Con := { run := fun ds => match ds with | [p0, p1] => s FUEL p0 p1.i | _ => none, fresh := false, plain := true }
theorem fun_at : Tryd.prog.funcs[29]? = some Tryd.f29 := by kernel_rfl
theorem params : Tryd.f29.params.toList.map ty = [(.struct [25, 3, 3]), (.int .i64)] := by kernel_rfl
theorem results : Tryd.f29.resultTypes.toList = [3] := by kernel_rfl
theorem flat : Tryd.f29.resultTypes.toList.all (fun t => K.flat ty 20 (ty t)) = true := by kernel_rfl
theorem ok : ConOk (29, c) := by
  intro fn hfn
  obtain rfl : Tryd.f29 = fn := Option.some.inj (fun_at.symm.trans hfn)
  refine contract_flat (n := 20) hgl (fun _ => flat) (fun ds r hh0 hr => ?_)
  rw [params] at hh0
  obtain ⟨p0, ds0, rfl, h0, hh1⟩ := hass_cons hh0
  obtain ⟨p1, ds1, rfl, h1, hh2⟩ := hass_cons hh1
  obtain ⟨p1, rfl⟩ := has_int h1
  obtain rfl := hass_nil hh2
  refine ⟨e FUEL, DEPTH, tblOf (t FUEL), envOk allNil allNil, rfl, t_ok FUEL, ?_⟩
  rw [params, results]
  exact (run FUEL p0 p1).trans hr
end F29
namespace F16
def cons : List (Nat × Con) := [(28, F28.c), (29, F29.c), (34, F34.c), (44, F44.c), (58, F58.c), (61, F61.c), (63, F63.c), (65, F65.c)]
def exts : List (Nat × Ext) := []
def h : List (Nat × Nat × Hint) := [(35, 5, { live := [], rows := [], own := false, inpl := true }), (51, 2, { live := [0, 1, 7, 8], rows := [], own := false, inpl := false })]
noncomputable def e (M : Nat) : Env := env cons exts h M
noncomputable def t16_0 (_ : Nat) : List Ent := []
theorem t16_0_ok (M : Nat) : AllOk (e M) (tblOf (t16_0 M)) := AllOk.nil
structure S51_2 where
  d2 : D
  i3 : Int
  i4 : Int
  d5 : D
  d6 : D
  b7 : Bool
  l8 : (List D)
  i9 : Int
  i10 : Int
  d11 : D
  d12 : D
inductive X51_2 where
  | e0 (d2 : D) (i3 : Int) (i4 : Int) (d5 : D) (d6 : D) (b7 : Bool) (l8 : (List D)) (i9 : Int) (i10 : Int) (d11 : D) (d12 : D)
  | e1 (d2 : D) (i3 : Int) (i4 : Int) (d5 : D) (d6 : D) (b7 : Bool) (l8 : (List D)) (i9 : Int) (i10 : Int) (d11 : D) (d12 : D)
def st51_2 (M : Nat) : S51_2 → (S51_2 → Option D) → (X51_2 → Option D) → Option D
  | ⟨d2, i3, i4, d5, d6, b7, l8, i9, i10, d11, d12⟩, rec, K => (cond (ltI i4 i3) (cond (inb i4 d2.elems.length) (cond (eqS (((ix d2.elems i4.toNat).at 0).at 1).s (d12.at 2).s) (K (.e0 d2 i3 i4 d5 d6 b7 l8 i9 i10 d11 d12)) (rec ⟨d2, i3, (ad .i64 i4 1), d5, d6, b7, l8, i9, i10, d11, d12⟩)) none) (K (.e1 d2 i3 i4 d5 d6 b7 l8 i9 i10 d11 d12)))
def lv51_2 : S51_2 → List Leaf
  | ⟨d2, i3, i4, d5, d6, b7, l8, i9, i10, d11, d12⟩ => [.d d2, .i i3, .i i4, .d d5, .d d6, .b b7, .l l8, .i i9, .i i10, .d d11, .d d12]
def of51_2 : List Leaf → Option S51_2
  | [.d d2, .i i3, .i i4, .d d5, .d d6, .b b7, .l l8, .i i9, .i i10, .d d11, .d d12] => some ⟨d2, i3, i4, d5, d6, b7, l8, i9, i10, d11, d12⟩
  | _ => none
def ex51_2 (k : Kont) : X51_2 → Option D
  | .e0 d2 i3 i4 d5 d6 b7 l8 i9 i10 d11 d12 => k .ret ((.d (.slice 44) d2) :: ((.func (.func 81) [] [(.ptr 5 [] (.struct [34, 3, 9, 3, 3, 36]))]) :: (us 2 ((.d (.int .i64) (di i4)) :: ((.d (.int .i64) (di i4)) :: (us 1 ((.d (.int .i64) (di i3)) :: ((.d (.int .i64) (di i4)) :: ((.d .bool (db (ltI i4 i3))) :: ((.d (.int .i64) (di i4)) :: ((.func (.func 81) [] [(.ptr 5 [] (.struct [34, 3, 9, 3, 3, 36]))]) :: ((.d (.slice 44) d2) :: ((.d (.int .i64) (di i4)) :: ((.cptr (.struct [42, 3, 36]) (ix d2.elems i4.toNat)) :: ((.d (.struct [42, 3, 36]) (ix d2.elems i4.toNat)) :: ((.d .bool (db (eqS (((ix d2.elems i4.toNat).at 0).at 1).s (d12.at 2).s))) :: ((.d (.int .i64) (di i4)) :: (us 1 [])))))))))))))))))) [(.var (.struct [25, 3, 3]) (.d (.struct [25, 3, 3]) d5)), (.var (.struct [34, 3, 9, 3, 3, 36]) (.d (.struct [34, 3, 9, 3, 3, 36]) d6)), (.var (.struct [25, 3, 3]) (.d (.struct [25, 3, 3]) (da [(dl b7 l8), (di i9), (di i10)]))), (.var (.struct [25, 3, 3]) (.d (.struct [25, 3, 3]) d11)), (.var (.struct [75]) (.d (.struct [75]) (da [(D.fn 55)]))), (.var (.struct [34, 3, 9, 3, 3, 36]) (.d (.struct [34, 3, 9, 3, 3, 36]) d12)), (.var (.struct [42, 3, 36]) (.d (.struct [42, 3, 36]) (ix d2.elems i4.toNat)))]
  | .e1 d2 i3 i4 d5 d6 b7 l8 i9 i10 d11 d12 => k (.exit 0) ((.d (.slice 44) d2) :: ((.func (.func 81) [] [(.ptr 5 [] (.struct [34, 3, 9, 3, 3, 36]))]) :: (us 5 ((.d (.int .i64) (di i3)) :: ((.d (.int .i64) (di i4)) :: ((.d .bool (db (ltI i4 i3))) :: (us 9 []))))))) [(.var (.struct [25, 3, 3]) (.d (.struct [25, 3, 3]) d5)), (.var (.struct [34, 3, 9, 3, 3, 36]) (.d (.struct [34, 3, 9, 3, 3, 36]) d6)), (.var (.struct [25, 3, 3]) (.d (.struct [25, 3, 3]) (da [(dl b7 l8), (di i9), (di i10)]))), (.var (.struct [25, 3, 3]) (.d (.struct [25, 3, 3]) d11)), (.var (.struct [75]) (.d (.struct [75]) (da [(D.fn 55)]))), (.var (.struct [34, 3, 9, 3, 3, 36]) (.d (.struct [34, 3, 9, 3, 3, 36]) d12))]
def ps51_2 : List PV := ((.d (.slice 44) .x) :: ((.func 81 [] [(.ptr 5 [] (.struct [34, 3, 9, 3, 3, 36]))]) :: (up 5 ((.d (.int .i64) (.int .i64)) :: ((.d (.int .i64) (.int .i64)) :: (up 10 []))))))
def qs51_2 : List PO := [(.var (.struct [25, 3, 3]) (.d (.struct [25, 3, 3]) .x)), (.var (.struct [34, 3, 9, 3, 3, 36]) (.d (.struct [34, 3, 9, 3, 3, 36]) .x)), (.var (.struct [25, 3, 3]) (.d (.struct [25, 3, 3]) (.agg [.slice, (.int .i64), (.int .i64)]))), (.var (.struct [25, 3, 3]) (.d (.struct [25, 3, 3]) .x)), (.var (.struct [75]) (.d (.struct [75]) (.agg [(.fn 55)]))), (.var (.struct [34, 3, 9, 3, 3, 36]) (.d (.struct [34, 3, 9, 3, 3, 36]) .x))]
noncomputable def sum51_2 (M : Nat) : Sum := sumS [0, 1, 7, 8] ps51_2 qs51_2 [] of51_2 (st51_2 M) ex51_2 M
theorem sok51_2 (M : Nat) : SumOk (e M) (call (e M) 2) 51 6 (loopAt (e M) 51 2) (sum51_2 M) :=
  sumOk_st (T := tblOf (t16_0 M)) (n0 := 6) (lv := lv51_2) (t16_0_ok M) (by kernel_rfl) rfl (by intro ls s h; unfold of51_2 at h; split at h <;> simp at h; subst h; rfl) (by intro s; kernel_rfl) (by intro s; kernel_rfl) (by intro s nx k; kernel_rfl)
noncomputable def t16_1 (M : Nat) : List Ent := ⟨51, 2, 6, 2, sum51_2 M⟩ :: t16_0 M
theorem t16_1_ok (M : Nat) : AllOk (e M) (tblOf (t16_1 M)) := (t16_0_ok M).add ⟨51, 2, 6, 2, sum51_2 M⟩ (by kernel_rfl) (sok51_2 M)
def s (M : Nat) (p0 : D) (p1 : D) : Option D :=
  (bd (F28.s FUEL p1) fun r1 => (cond (!r1.b) (some (D.tup [p0, (di 13)])) (cond (eqI (p1.at 0).i 7) (cond (leI (p1.at 3).i (p0.at 2).i) (some (D.tup [p0, (di 13)])) (some (D.tup [(D.agg (p0.parts.set 2 (p1.at 3))), (di 0)]))) (cond (eqI (p1.at 0).i 0) (cond (neI (sb .i64 (p1.at 1).i 1) (p0.at 1).i) (some (D.tup [p0, (di 13)])) (cond (geI (nI (p0.at 0).elems.length) 12) (some (D.tup [p0, (di 13)])) (goS (st51_2 M) M ⟨(p0.at 0), (nI (p0.at 0).elems.length), 0, p0, p1, false, [], 0, 0, p0, p1⟩ fun x => match x with | .e0 d2 i3 i4 d5 d6 b7 l8 i9 i10 d11 d12 => (cond (geI i4 0) (some (D.tup [d5, (di 13)])) (bd (F34.s FUEL (d11.at 0)) fun r13 => (cond (mx (r13.elems.length + 1)) (some (D.tup [(da [(dl (r13.nn || true) (((ap ((r13.elems.drop 0).take r13.elems.length) [(da [(da [(d12.at 1), (d12.at 2), (dS (bs [])), (db false), (di 0), (dl false [])]), (di 0), (da (rp 32 (D.int .u8 0)))])]).drop 0).take (r13.elems.length + 1))), (d12.at 1), (d11.at 2)]), (di 0)])) none))) | .e1 d2 i3 i4 d5 d6 b7 l8 i9 i10 d11 d12 => (bd (F34.s FUEL (d11.at 0)) fun r14 => (cond (mx (r14.elems.length + 1)) (some (D.tup [(da [(dl (r14.nn || true) (((ap ((r14.elems.drop 0).take r14.elems.length) [(da [(da [(d12.at 1), (d12.at 2), (dS (bs [])), (db false), (di 0), (dl false [])]), (di 0), (da (rp 32 (D.int .u8 0)))])]).drop 0).take (r14.elems.length + 1))), (d12.at 1), (d11.at 2)]), (di 0)])) none))))) (cond (eqI (p1.at 0).i 1) (bd (F29.s FUEL p0 (p1.at 1).i) fun r15 => (cond (ltI r15.i 0) (some (D.tup [p0, (di 13)])) (bd (F34.s FUEL (p0.at 0)) fun r16 => (cond (inb r15.i r16.elems.length) (bdB (((ix r16.elems (0 + (r15.i).toNat)).at 0).at 3) fun g17 => (cond g17 (some (D.tup [p0, (di 13)])) (cond (gtI ((ix r16.elems (0 + (r15.i).toNat)).at 1).i (sb .i64 600 (p1.at 4).i)) (some (D.tup [p0, (di 13)])) (cond (eqI (p1.at 0).i 6) (cond ((leI 0 r15.i) && (leI r15.i (ad .i64 r15.i 1)) && (leI (ad .i64 r15.i 1) (nI r16.elems.length)) && (leI (nI r16.elems.length) (nI r16.elems.length)) && (eqN (0 + r16.elems.length) (r16.elems.set (0 + (r15.i).toNat) (D.agg ((ix r16.elems (0 + (r15.i).toNat)).parts.set 1 (di (ad .i64 ((ix r16.elems (0 + (r15.i).toNat)).at 1).i (p1.at 4).i))))).length)) (cond (eqI r15.i (ad .i64 r15.i 1)) (some (D.tup [(da [(dl r16.nn (((r16.elems.set (0 + (r15.i).toNat) (D.agg ((ix r16.elems (0 + (r15.i).toNat)).parts.set 1 (di (ad .i64 ((ix r16.elems (0 + (r15.i).toNat)).at 1).i (p1.at 4).i))))).drop 0).take r16.elems.length)), (p0.at 1), (p0.at 2)]), (di 0)])) (cond (true && (leI 0 r15.i) && (leN (0 + (r15.i).toNat) (r16.elems.set (0 + (r15.i).toNat) (D.agg ((ix r16.elems (0 + (r15.i).toNat)).parts.set 1 (di (ad .i64 ((ix r16.elems (0 + (r15.i).toNat)).at 1).i (p1.at 4).i))))).length)) (cond ((leI 0 (ad .i64 r15.i 1)) && (leI (ad .i64 r15.i 1) (nI r16.elems.length)) && (leN (0 + r16.elems.length) (r16.elems.set (0 + (r15.i).toNat) (D.agg ((ix r16.elems (0 + (r15.i).toNat)).parts.set 1 (di (ad .i64 ((ix r16.elems (0 + (r15.i).toNat)).at 1).i (p1.at 4).i))))).length)) (cond (leN ((0 + ((r15.i).toNat - 0)) + (((r16.elems.set (0 + (r15.i).toNat) (D.agg ((ix r16.elems (0 + (r15.i).toNat)).parts.set 1 (di (ad .i64 ((ix r16.elems (0 + (r15.i).toNat)).at 1).i (p1.at 4).i))))).drop (0 + (ad .i64 r15.i 1).toNat)).take (r16.elems.length - (ad .i64 r15.i 1).toNat)).length) (r16.elems.set (0 + (r15.i).toNat) (D.agg ((ix r16.elems (0 + (r15.i).toNat)).parts.set 1 (di (ad .i64 ((ix r16.elems (0 + (r15.i).toNat)).at 1).i (p1.at 4).i))))).length) (cond ((leI 0 (nI (((r15.i).toNat - 0) + (((r16.elems.set (0 + (r15.i).toNat) (D.agg ((ix r16.elems (0 + (r15.i).toNat)).parts.set 1 (di (ad .i64 ((ix r16.elems (0 + (r15.i).toNat)).at 1).i (p1.at 4).i))))).drop (0 + (ad .i64 r15.i 1).toNat)).take (r16.elems.length - (ad .i64 r15.i 1).toNat)).length))) && (leI (nI (((r15.i).toNat - 0) + (((r16.elems.set (0 + (r15.i).toNat) (D.agg ((ix r16.elems (0 + (r15.i).toNat)).parts.set 1 (di (ad .i64 ((ix r16.elems (0 + (r15.i).toNat)).at 1).i (p1.at 4).i))))).drop (0 + (ad .i64 r15.i 1).toNat)).take (r16.elems.length - (ad .i64 r15.i 1).toNat)).length)) (nI r16.elems.length)) && (leN (0 + r16.elems.length) (ap (ap ((r16.elems.set (0 + (r15.i).toNat) (D.agg ((ix r16.elems (0 + (r15.i).toNat)).parts.set 1 (di (ad .i64 ((ix r16.elems (0 + (r15.i).toNat)).at 1).i (p1.at 4).i))))).take (0 + ((r15.i).toNat - 0))) (((r16.elems.set (0 + (r15.i).toNat) (D.agg ((ix r16.elems (0 + (r15.i).toNat)).parts.set 1 (di (ad .i64 ((ix r16.elems (0 + (r15.i).toNat)).at 1).i (p1.at 4).i))))).drop (0 + (ad .i64 r15.i 1).toNat)).take (r16.elems.length - (ad .i64 r15.i 1).toNat))) ((r16.elems.set (0 + (r15.i).toNat) (D.agg ((ix r16.elems (0 + (r15.i).toNat)).parts.set 1 (di (ad .i64 ((ix r16.elems (0 + (r15.i).toNat)).at 1).i (p1.at 4).i))))).drop ((0 + ((r15.i).toNat - 0)) + (((r16.elems.set (0 + (r15.i).toNat) (D.agg ((ix r16.elems (0 + (r15.i).toNat)).parts.set 1 (di (ad .i64 ((ix r16.elems (0 + (r15.i).toNat)).at 1).i (p1.at 4).i))))).drop (0 + (ad .i64 r15.i 1).toNat)).take (r16.elems.length - (ad .i64 r15.i 1).toNat)).length))).length)) (some (D.tup [(da [(dl r16.nn (((ap (ap ((ap (ap ((r16.elems.set (0 + (r15.i).toNat) (D.agg ((ix r16.elems (0 + (r15.i).toNat)).parts.set 1 (di (ad .i64 ((ix r16.elems (0 + (r15.i).toNat)).at 1).i (p1.at 4).i))))).take (0 + ((r15.i).toNat - 0))) (((r16.elems.set (0 + (r15.i).toNat) (D.agg ((ix r16.elems (0 + (r15.i).toNat)).parts.set 1 (di (ad .i64 ((ix r16.elems (0 + (r15.i).toNat)).at 1).i (p1.at 4).i))))).drop (0 + (ad .i64 r15.i 1).toNat)).take (r16.elems.length - (ad .i64 r15.i 1).toNat))) ((r16.elems.set (0 + (r15.i).toNat) (D.agg ((ix r16.elems (0 + (r15.i).toNat)).parts.set 1 (di (ad .i64 ((ix r16.elems (0 + (r15.i).toNat)).at 1).i (p1.at 4).i))))).drop ((0 + ((r15.i).toNat - 0)) + (((r16.elems.set (0 + (r15.i).toNat) (D.agg ((ix r16.elems (0 + (r15.i).toNat)).parts.set 1 (di (ad .i64 ((ix r16.elems (0 + (r15.i).toNat)).at 1).i (p1.at 4).i))))).drop (0 + (ad .i64 r15.i 1).toNat)).take (r16.elems.length - (ad .i64 r15.i 1).toNat)).length))).take (0 + (((r15.i).toNat - 0) + (((r16.elems.set (0 + (r15.i).toNat) (D.agg ((ix r16.elems (0 + (r15.i).toNat)).parts.set 1 (di (ad .i64 ((ix r16.elems (0 + (r15.i).toNat)).at 1).i (p1.at 4).i))))).drop (0 + (ad .i64 r15.i 1).toNat)).take (r16.elems.length - (ad .i64 r15.i 1).toNat)).length))) (rp (r16.elems.length - (((r15.i).toNat - 0) + (((r16.elems.set (0 + (r15.i).toNat) (D.agg ((ix r16.elems (0 + (r15.i).toNat)).parts.set 1 (di (ad .i64 ((ix r16.elems (0 + (r15.i).toNat)).at 1).i (p1.at 4).i))))).drop (0 + (ad .i64 r15.i 1).toNat)).take (r16.elems.length - (ad .i64 r15.i 1).toNat)).length)) (da [(da [(di 0), (dS (bs [])), (dS (bs [])), (db false), (di 0), (dl false [])]), (di 0), (da (rp 32 (D.int .u8 0)))]))) ((ap (ap ((r16.elems.set (0 + (r15.i).toNat) (D.agg ((ix r16.elems (0 + (r15.i).toNat)).parts.set 1 (di (ad .i64 ((ix r16.elems (0 + (r15.i).toNat)).at 1).i (p1.at 4).i))))).take (0 + ((r15.i).toNat - 0))) (((r16.elems.set (0 + (r15.i).toNat) (D.agg ((ix r16.elems (0 + (r15.i).toNat)).parts.set 1 (di (ad .i64 ((ix r16.elems (0 + (r15.i).toNat)).at 1).i (p1.at 4).i))))).drop (0 + (ad .i64 r15.i 1).toNat)).take (r16.elems.length - (ad .i64 r15.i 1).toNat))) ((r16.elems.set (0 + (r15.i).toNat) (D.agg ((ix r16.elems (0 + (r15.i).toNat)).parts.set 1 (di (ad .i64 ((ix r16.elems (0 + (r15.i).toNat)).at 1).i (p1.at 4).i))))).drop ((0 + ((r15.i).toNat - 0)) + (((r16.elems.set (0 + (r15.i).toNat) (D.agg ((ix r16.elems (0 + (r15.i).toNat)).parts.set 1 (di (ad .i64 ((ix r16.elems (0 + (r15.i).toNat)).at 1).i (p1.at 4).i))))).drop (0 + (ad .i64 r15.i 1).toNat)).take (r16.elems.length - (ad .i64 r15.i 1).toNat)).length))).drop ((0 + (((r15.i).toNat - 0) + (((r16.elems.set (0 + (r15.i).toNat) (D.agg ((ix r16.elems (0 + (r15.i).toNat)).parts.set 1 (di (ad .i64 ((ix r16.elems (0 + (r15.i).toNat)).at 1).i (p1.at 4).i))))).drop (0 + (ad .i64 r15.i 1).toNat)).take (r16.elems.length - (ad .i64 r15.i 1).toNat)).length)) + (r16.elems.length - (((r15.i).toNat - 0) + (((r16.elems.set (0 + (r15.i).toNat) (D.agg ((ix r16.elems (0 + (r15.i).toNat)).parts.set 1 (di (ad .i64 ((ix r16.elems (0 + (r15.i).toNat)).at 1).i (p1.at 4).i))))).drop (0 + (ad .i64 r15.i 1).toNat)).take (r16.elems.length - (ad .i64 r15.i 1).toNat)).length))))).drop 0).take (((r15.i).toNat - 0) + (((r16.elems.set (0 + (r15.i).toNat) (D.agg ((ix r16.elems (0 + (r15.i).toNat)).parts.set 1 (di (ad .i64 ((ix r16.elems (0 + (r15.i).toNat)).at 1).i (p1.at 4).i))))).drop (0 + (ad .i64 r15.i 1).toNat)).take (r16.elems.length - (ad .i64 r15.i 1).toNat)).length))), (p0.at 1), (p0.at 2)]), (di 0)])) none) none) none) none)) none) (some (D.tup [(da [(dl r16.nn (((r16.elems.set (0 + (r15.i).toNat) (D.agg ((ix r16.elems (0 + (r15.i).toNat)).parts.set 1 (di (ad .i64 ((ix r16.elems (0 + (r15.i).toNat)).at 1).i (p1.at 4).i))))).drop 0).take r16.elems.length)), (p0.at 1), (p0.at 2)]), (di 0)])))))) none)))) (cond (eqI (p1.at 0).i 2) (bd (F29.s FUEL p0 (p1.at 1).i) fun r18 => (cond (ltI r18.i 0) (some (D.tup [p0, (di 13)])) (bd (F34.s FUEL (p0.at 0)) fun r19 => (cond (inb r18.i r19.elems.length) (bd (F58.s FUEL ((ix r19.elems (0 + (r18.i).toNat)).at 0) (p1.at 3).i) fun r20 => (cond (neI ((ix r19.elems (0 + (r18.i).toNat)).at 1).i (p1.at 4).i) (some (D.tup [p0, (di 13)])) (cond (eqI (r20.at 1).i 0) (cond (!(eqI (r20.at 1).i 0)) (some (D.tup [p0, (di 13)])) (cond (eqI (p1.at 0).i 6) (cond ((leI 0 r18.i) && (leI r18.i (ad .i64 r18.i 1)) && (leI (ad .i64 r18.i 1) (nI r19.elems.length)) && (leI (nI r19.elems.length) (nI r19.elems.length)) && (eqN (0 + r19.elems.length) ((r19.elems.set (0 + (r18.i).toNat) (D.agg ((ix r19.elems (0 + (r18.i).toNat)).parts.set 0 (r20.at 0)))).set (0 + (r18.i).toNat) (D.agg ((ix (r19.elems.set (0 + (r18.i).toNat) (D.agg ((ix r19.elems (0 + (r18.i).toNat)).parts.set 0 (r20.at 0)))) (0 + (r18.i).toNat)).parts.set 2 (p1.at 5)))).length)) (cond (eqI r18.i (ad .i64 r18.i 1)) (some (D.tup [(da [(dl r19.nn ((((r19.elems.set (0 + (r18.i).toNat) (D.agg ((ix r19.elems (0 + (r18.i).toNat)).parts.set 0 (r20.at 0)))).set (0 + (r18.i).toNat) (D.agg ((ix (r19.elems.set (0 + (r18.i).toNat) (D.agg ((ix r19.elems (0 + (r18.i).toNat)).parts.set 0 (r20.at 0)))) (0 + (r18.i).toNat)).parts.set 2 (p1.at 5)))).drop 0).take r19.elems.length)), (p0.at 1), (p0.at 2)]), (di 0)])) (cond (true && (leI 0 r18.i) && (leN (0 + (r18.i).toNat) ((r19.elems.set (0 + (r18.i).toNat) (D.agg ((ix r19.elems (0 + (r18.i).toNat)).parts.set 0 (r20.at 0)))).set (0 + (r18.i).toNat) (D.agg ((ix (r19.elems.set (0 + (r18.i).toNat) (D.agg ((ix r19.elems (0 + (r18.i).toNat)).parts.set 0 (r20.at 0)))) (0 + (r18.i).toNat)).parts.set 2 (p1.at 5)))).length)) (cond ((leI 0 (ad .i64 r18.i 1)) && (leI (ad .i64 r18.i 1) (nI r19.elems.length)) && (leN (0 + r19.elems.length) ((r19.elems.set (0 + (r18.i).toNat) (D.agg ((ix r19.elems (0 + (r18.i).toNat)).parts.set 0 (r20.at 0)))).set (0 + (r18.i).toNat) (D.agg ((ix (r19.elems.set (0 + (r18.i).toNat) (D.agg ((ix r19.elems (0 + (r18.i).toNat)).parts.set 0 (r20.at 0)))) (0 + (r18.i).toNat)).parts.set 2 (p1.at 5)))).length)) (cond (leN ((0 + ((r18.i).toNat - 0)) + ((((r19.elems.set (0 + (r18.i).toNat) (D.agg ((ix r19.elems (0 + (r18.i).toNat)).parts.set 0 (r20.at 0)))).set (0 + (r18.i).toNat) (D.agg ((ix (r19.elems.set (0 + (r18.i).toNat) (D.agg ((ix r19.elems (0 + (r18.i).toNat)).parts.set 0 (r20.at 0)))) (0 + (r18.i).toNat)).parts.set 2 (p1.at 5)))).drop (0 + (ad .i64 r18.i 1).toNat)).take (r19.elems.length - (ad .i64 r18.i 1).toNat)).length) ((r19.elems.set (0 + (r18.i).toNat) (D.agg ((ix r19.elems (0 + (r18.i).toNat)).parts.set 0 (r20.at 0)))).set (0 + (r18.i).toNat) (D.agg ((ix (r19.elems.set (0 + (r18.i).toNat) (D.agg ((ix r19.elems (0 + (r18.i).toNat)).parts.set 0 (r20.at 0)))) (0 + (r18.i).toNat)).parts.set 2 (p1.at 5)))).length) (cond ((leI 0 (nI (((r18.i).toNat - 0) + ((((r19.elems.set (0 + (r18.i).toNat) (D.agg ((ix r19.elems (0 + (r18.i).toNat)).parts.set 0 (r20.at 0)))).set (0 + (r18.i).toNat) (D.agg ((ix (r19.elems.set (0 + (r18.i).toNat) (D.agg ((ix r19.elems (0 + (r18.i).toNat)).parts.set 0 (r20.at 0)))) (0 + (r18.i).toNat)).parts.set 2 (p1.at 5)))).drop (0 + (ad .i64 r18.i 1).toNat)).take (r19.elems.length - (ad .i64 r18.i 1).toNat)).length))) && (leI (nI (((r18.i).toNat - 0) + ((((r19.elems.set (0 + (r18.i).toNat) (D.agg ((ix r19.elems (0 + (r18.i).toNat)).parts.set 0 (r20.at 0)))).set (0 + (r18.i).toNat) (D.agg ((ix (r19.elems.set (0 + (r18.i).toNat) (D.agg ((ix r19.elems (0 + (r18.i).toNat)).parts.set 0 (r20.at 0)))) (0 + (r18.i).toNat)).parts.set 2 (p1.at 5)))).drop (0 + (ad .i64 r18.i 1).toNat)).take (r19.elems.length - (ad .i64 r18.i 1).toNat)).length)) (nI r19.elems.length)) && (leN (0 + r19.elems.length) (ap (ap (((r19.elems.set (0 + (r18.i).toNat) (D.agg ((ix r19.elems (0 + (r18.i).toNat)).parts.set 0 (r20.at 0)))).set (0 + (r18.i).toNat) (D.agg ((ix (r19.elems.set (0 + (r18.i).toNat) (D.agg ((ix r19.elems (0 + (r18.i).toNat)).parts.set 0 (r20.at 0)))) (0 + (r18.i).toNat)).parts.set 2 (p1.at 5)))).take (0 + ((r18.i).toNat - 0))) ((((r19.elems.set (0 + (r18.i).toNat) (D.agg ((ix r19.elems (0 + (r18.i).toNat)).parts.set 0 (r20.at 0)))).set (0 + (r18.i).toNat) (D.agg ((ix (r19.elems.set (0 + (r18.i).toNat) (D.agg ((ix r19.elems (0 + (r18.i).toNat)).parts.set 0 (r20.at 0)))) (0 + (r18.i).toNat)).parts.set 2 (p1.at 5)))).drop (0 + (ad .i64 r18.i 1).toNat)).take (r19.elems.length - (ad .i64 r18.i 1).toNat))) (((r19.elems.set (0 + (r18.i).toNat) (D.agg ((ix r19.elems (0 + (r18.i).toNat)).parts.set 0 (r20.at 0)))).set (0 + (r18.i).toNat) (D.agg ((ix (r19.elems.set (0 + (r18.i).toNat) (D.agg ((ix r19.elems (0 + (r18.i).toNat)).parts.set 0 (r20.at 0)))) (0 + (r18.i).toNat)).parts.set 2 (p1.at 5)))).drop ((0 + ((r18.i).toNat - 0)) + ((((r19.elems.set (0 + (r18.i).toNat) (D.agg ((ix r19.elems (0 + (r18.i).toNat)).parts.set 0 (r20.at 0)))).set (0 + (r18.i).toNat) (D.agg ((ix (r19.elems.set (0 + (r18.i).toNat) (D.agg ((ix r19.elems (0 + (r18.i).toNat)).parts.set 0 (r20.at 0)))) (0 + (r18.i).toNat)).parts.set 2 (p1.at 5)))).drop (0 + (ad .i64 r18.i 1).toNat)).take (r19.elems.length - (ad .i64 r18.i 1).toNat)).length))).length)) (some (D.tup [(da [(dl r19.nn (((ap (ap ((ap (ap (((r19.elems.set (0 + (r18.i).toNat) (D.agg ((ix r19.elems (0 + (r18.i).toNat)).parts.set 0 (r20.at 0)))).set (0 + (r18.i).toNat) (D.agg ((ix (r19.elems.set (0 + (r18.i).toNat) (D.agg ((ix r19.elems (0 + (r18.i).toNat)).parts.set 0 (r20.at 0)))) (0 + (r18.i).toNat)).parts.set 2 (p1.at 5)))).take (0 + ((r18.i).toNat - 0))) ((((r19.elems.set (0 + (r18.i).toNat) (D.agg ((ix r19.elems (0 + (r18.i).toNat)).parts.set 0 (r20.at 0)))).set (0 + (r18.i).toNat) (D.agg ((ix (r19.elems.set (0 + (r18.i).toNat) (D.agg ((ix r19.elems (0 + (r18.i).toNat)).parts.set 0 (r20.at 0)))) (0 + (r18.i).toNat)).parts.set 2 (p1.at 5)))).drop (0 + (ad .i64 r18.i 1).toNat)).take (r19.elems.length - (ad .i64 r18.i 1).toNat))) (((r19.elems.set (0 + (r18.i).toNat) (D.agg ((ix r19.elems (0 + (r18.i).toNat)).parts.set 0 (r20.at 0)))).set (0 + (r18.i).toNat) (D.agg ((ix (r19.elems.set (0 + (r18.i).toNat) (D.agg ((ix r19.elems (0 + (r18.i).toNat)).parts.set 0 (r20.at 0)))) (0 + (r18.i).toNat)).parts.set 2 (p1.at 5)))).drop ((0 + ((r18.i).toNat - 0)) + ((((r19.elems.set (0 + (r18.i).toNat) (D.agg ((ix r19.elems (0 + (r18.i).toNat)).parts.set 0 (r20.at 0)))).set (0 + (r18.i).toNat) (D.agg ((ix (r19.elems.set (0 + (r18.i).toNat) (D.agg ((ix r19.elems (0 + (r18.i).toNat)).parts.set 0 (r20.at 0)))) (0 + (r18.i).toNat)).parts.set 2 (p1.at 5)))).drop (0 + (ad .i64 r18.i 1).toNat)).take (r19.elems.length - (ad .i64 r18.i 1).toNat)).length))).take (0 + (((r18.i).toNat - 0) + ((((r19.elems.set (0 + (r18.i).toNat) (D.agg ((ix r19.elems (0 + (r18.i).toNat)).parts.set 0 (r20.at 0)))).set (0 + (r18.i).toNat) (D.agg ((ix (r19.elems.set (0 + (r18.i).toNat) (D.agg ((ix r19.elems (0 + (r18.i).toNat)).parts.set 0 (r20.at 0)))) (0 + (r18.i).toNat)).parts.set 2 (p1.at 5)))).drop (0 + (ad .i64 r18.i 1).toNat)).take (r19.elems.length - (ad .i64 r18.i 1).toNat)).length))) (rp (r19.elems.length - (((r18.i).toNat - 0) + ((((r19.elems.set (0 + (r18.i).toNat) (D.agg ((ix r19.elems (0 + (r18.i).toNat)).parts.set 0 (r20.at 0)))).set (0 + (r18.i).toNat) (D.agg ((ix (r19.elems.set (0 + (r18.i).toNat) (D.agg ((ix r19.elems (0 + (r18.i).toNat)).parts.set 0 (r20.at 0)))) (0 + (r18.i).toNat)).parts.set 2 (p1.at 5)))).drop (0 + (ad .i64 r18.i 1).toNat)).take (r19.elems.length - (ad .i64 r18.i 1).toNat)).length)) (da [(da [(di 0), (dS (bs [])), (dS (bs [])), (db false), (di 0), (dl false [])]), (di 0), (da (rp 32 (D.int .u8 0)))]))) ((ap (ap (((r19.elems.set (0 + (r18.i).toNat) (D.agg ((ix r19.elems (0 + (r18.i).toNat)).parts.set 0 (r20.at 0)))).set (0 + (r18.i).toNat) (D.agg ((ix (r19.elems.set (0 + (r18.i).toNat) (D.agg ((ix r19.elems (0 + (r18.i).toNat)).parts.set 0 (r20.at 0)))) (0 + (r18.i).toNat)).parts.set 2 (p1.at 5)))).take (0 + ((r18.i).toNat - 0))) ((((r19.elems.set (0 + (r18.i).toNat) (D.agg ((ix r19.elems (0 + (r18.i).toNat)).parts.set 0 (r20.at 0)))).set (0 + (r18.i).toNat) (D.agg ((ix (r19.elems.set (0 + (r18.i).toNat) (D.agg ((ix r19.elems (0 + (r18.i).toNat)).parts.set 0 (r20.at 0)))) (0 + (r18.i).toNat)).parts.set 2 (p1.at 5)))).drop (0 + (ad .i64 r18.i 1).toNat)).take (r19.elems.length - (ad .i64 r18.i 1).toNat))) (((r19.elems.set (0 + (r18.i).toNat) (D.agg ((ix r19.elems (0 + (r18.i).toNat)).parts.set 0 (r20.at 0)))).set (0 + (r18.i).toNat) (D.agg ((ix (r19.elems.set (0 + (r18.i).toNat) (D.agg ((ix r19.elems (0 + (r18.i).toNat)).parts.set 0 (r20.at 0)))) (0 + (r18.i).toNat)).parts.set 2 (p1.at 5)))).drop ((0 + ((r18.i).toNat - 0)) + ((((r19.elems.set (0 + (r18.i).toNat) (D.agg ((ix r19.elems (0 + (r18.i).toNat)).parts.set 0 (r20.at 0)))).set (0 + (r18.i).toNat) (D.agg ((ix (r19.elems.set (0 + (r18.i).toNat) (D.agg ((ix r19.elems (0 + (r18.i).toNat)).parts.set 0 (r20.at 0)))) (0 + (r18.i).toNat)).parts.set 2 (p1.at 5)))).drop (0 + (ad .i64 r18.i 1).toNat)).take (r19.elems.length - (ad .i64 r18.i 1).toNat)).length))).drop ((0 + (((r18.i).toNat - 0) + ((((r19.elems.set (0 + (r18.i).toNat) (D.agg ((ix r19.elems (0 + (r18.i).toNat)).parts.set 0 (r20.at 0)))).set (0 + (r18.i).toNat) (D.agg ((ix (r19.elems.set (0 + (r18.i).toNat) (D.agg ((ix r19.elems (0 + (r18.i).toNat)).parts.set 0 (r20.at 0)))) (0 + (r18.i).toNat)).parts.set 2 (p1.at 5)))).drop (0 + (ad .i64 r18.i 1).toNat)).take (r19.elems.length - (ad .i64 r18.i 1).toNat)).length)) + (r19.elems.length - (((r18.i).toNat - 0) + ((((r19.elems.set (0 + (r18.i).toNat) (D.agg ((ix r19.elems (0 + (r18.i).toNat)).parts.set 0 (r20.at 0)))).set (0 + (r18.i).toNat) (D.agg ((ix (r19.elems.set (0 + (r18.i).toNat) (D.agg ((ix r19.elems (0 + (r18.i).toNat)).parts.set 0 (r20.at 0)))) (0 + (r18.i).toNat)).parts.set 2 (p1.at 5)))).drop (0 + (ad .i64 r18.i 1).toNat)).take (r19.elems.length - (ad .i64 r18.i 1).toNat)).length))))).drop 0).take (((r18.i).toNat - 0) + ((((r19.elems.set (0 + (r18.i).toNat) (D.agg ((ix r19.elems (0 + (r18.i).toNat)).parts.set 0 (r20.at 0)))).set (0 + (r18.i).toNat) (D.agg ((ix (r19.elems.set (0 + (r18.i).toNat) (D.agg ((ix r19.elems (0 + (r18.i).toNat)).parts.set 0 (r20.at 0)))) (0 + (r18.i).toNat)).parts.set 2 (p1.at 5)))).drop (0 + (ad .i64 r18.i 1).toNat)).take (r19.elems.length - (ad .i64 r18.i 1).toNat)).length))), (p0.at 1), (p0.at 2)]), (di 0)])) none) none) none) none)) none) (some (D.tup [(da [(dl r19.nn ((((r19.elems.set (0 + (r18.i).toNat) (D.agg ((ix r19.elems (0 + (r18.i).toNat)).parts.set 0 (r20.at 0)))).set (0 + (r18.i).toNat) (D.agg ((ix (r19.elems.set (0 + (r18.i).toNat) (D.agg ((ix r19.elems (0 + (r18.i).toNat)).parts.set 0 (r20.at 0)))) (0 + (r18.i).toNat)).parts.set 2 (p1.at 5)))).drop 0).take r19.elems.length)), (p0.at 1), (p0.at 2)]), (di 0)])))) (cond (!(eqI (r20.at 1).i 0)) (some (D.tup [p0, (di 13)])) (cond (eqI (p1.at 0).i 6) (cond ((leI 0 r18.i) && (leI r18.i (ad .i64 r18.i 1)) && (leI (ad .i64 r18.i 1) (nI r19.elems.length)) && (leI (nI r19.elems.length) (nI r19.elems.length)) && (eqN (0 + r19.elems.length) (r19.elems.set (0 + (r18.i).toNat) (D.agg ((ix r19.elems (0 + (r18.i).toNat)).parts.set 2 (p1.at 5)))).length)) (cond (eqI r18.i (ad .i64 r18.i 1)) (some (D.tup [(da [(dl r19.nn (((r19.elems.set (0 + (r18.i).toNat) (D.agg ((ix r19.elems (0 + (r18.i).toNat)).parts.set 2 (p1.at 5)))).drop 0).take r19.elems.length)), (p0.at 1), (p0.at 2)]), (di 0)])) (cond (true && (leI 0 r18.i) && (leN (0 + (r18.i).toNat) (r19.elems.set (0 + (r18.i).toNat) (D.agg ((ix r19.elems (0 + (r18.i).toNat)).parts.set 2 (p1.at 5)))).length)) (cond ((leI 0 (ad .i64 r18.i 1)) && (leI (ad .i64 r18.i 1) (nI r19.elems.length)) && (leN (0 + r19.elems.length) (r19.elems.set (0 + (r18.i).toNat) (D.agg ((ix r19.elems (0 + (r18.i).toNat)).parts.set 2 (p1.at 5)))).length)) (cond (leN ((0 + ((r18.i).toNat - 0)) + (((r19.elems.set (0 + (r18.i).toNat) (D.agg ((ix r19.elems (0 + (r18.i).toNat)).parts.set 2 (p1.at 5)))).drop (0 + (ad .i64 r18.i 1).toNat)).take (r19.elems.length - (ad .i64 r18.i 1).toNat)).length) (r19.elems.set (0 + (r18.i).toNat) (D.agg ((ix r19.elems (0 + (r18.i).toNat)).parts.set 2 (p1.at 5)))).length) (cond ((leI 0 (nI (((r18.i).toNat - 0) + (((r19.elems.set (0 + (r18.i).toNat) (D.agg ((ix r19.elems (0 + (r18.i).toNat)).parts.set 2 (p1.at 5)))).drop (0 + (ad .i64 r18.i 1).toNat)).take (r19.elems.length - (ad .i64 r18.i 1).toNat)).length))) && (leI (nI (((r18.i).toNat - 0) + (((r19.elems.set (0 + (r18.i).toNat) (D.agg ((ix r19.elems (0 + (r18.i).toNat)).parts.set 2 (p1.at 5)))).drop (0 + (ad .i64 r18.i 1).toNat)).take (r19.elems.length - (ad .i64 r18.i 1).toNat)).length)) (nI r19.elems.length)) && (leN (0 + r19.elems.length) (ap (ap ((r19.elems.set (0 + (r18.i).toNat) (D.agg ((ix r19.elems (0 + (r18.i).toNat)).parts.set 2 (p1.at 5)))).take (0 + ((r18.i).toNat - 0))) (((r19.elems.set (0 + (r18.i).toNat) (D.agg ((ix r19.elems (0 + (r18.i).toNat)).parts.set 2 (p1.at 5)))).drop (0 + (ad .i64 r18.i 1).toNat)).take (r19.elems.length - (ad .i64 r18.i 1).toNat))) ((r19.elems.set (0 + (r18.i).toNat) (D.agg ((ix r19.elems (0 + (r18.i).toNat)).parts.set 2 (p1.at 5)))).drop ((0 + ((r18.i).toNat - 0)) + (((r19.elems.set (0 + (r18.i).toNat) (D.agg ((ix r19.elems (0 + (r18.i).toNat)).parts.set 2 (p1.at 5)))).drop (0 + (ad .i64 r18.i 1).toNat)).take (r19.elems.length - (ad .i64 r18.i 1).toNat)).length))).length)) (some (D.tup [(da [(dl r19.nn (((ap (ap ((ap (ap ((r19.elems.set (0 + (r18.i).toNat) (D.agg ((ix r19.elems (0 + (r18.i).toNat)).parts.set 2 (p1.at 5)))).take (0 + ((r18.i).toNat - 0))) (((r19.elems.set (0 + (r18.i).toNat) (D.agg ((ix r19.elems (0 + (r18.i).toNat)).parts.set 2 (p1.at 5)))).drop (0 + (ad .i64 r18.i 1).toNat)).take (r19.elems.length - (ad .i64 r18.i 1).toNat))) ((r19.elems.set (0 + (r18.i).toNat) (D.agg ((ix r19.elems (0 + (r18.i).toNat)).parts.set 2 (p1.at 5)))).drop ((0 + ((r18.i).toNat - 0)) + (((r19.elems.set (0 + (r18.i).toNat) (D.agg ((ix r19.elems (0 + (r18.i).toNat)).parts.set 2 (p1.at 5)))).drop (0 + (ad .i64 r18.i 1).toNat)).take (r19.elems.length - (ad .i64 r18.i 1).toNat)).length))).take (0 + (((r18.i).toNat - 0) + (((r19.elems.set (0 + (r18.i).toNat) (D.agg ((ix r19.elems (0 + (r18.i).toNat)).parts.set 2 (p1.at 5)))).drop (0 + (ad .i64 r18.i 1).toNat)).take (r19.elems.length - (ad .i64 r18.i 1).toNat)).length))) (rp (r19.elems.length - (((r18.i).toNat - 0) + (((r19.elems.set (0 + (r18.i).toNat) (D.agg ((ix r19.elems (0 + (r18.i).toNat)).parts.set 2 (p1.at 5)))).drop (0 + (ad .i64 r18.i 1).toNat)).take (r19.elems.length - (ad .i64 r18.i 1).toNat)).length)) (da [(da [(di 0), (dS (bs [])), (dS (bs [])), (db false), (di 0), (dl false [])]), (di 0), (da (rp 32 (D.int .u8 0)))]))) ((ap (ap ((r19.elems.set (0 + (r18.i).toNat) (D.agg ((ix r19.elems (0 + (r18.i).toNat)).parts.set 2 (p1.at 5)))).take (0 + ((r18.i).toNat - 0))) (((r19.elems.set (0 + (r18.i).toNat) (D.agg ((ix r19.elems (0 + (r18.i).toNat)).parts.set 2 (p1.at 5)))).drop (0 + (ad .i64 r18.i 1).toNat)).take (r19.elems.length - (ad .i64 r18.i 1).toNat))) ((r19.elems.set (0 + (r18.i).toNat) (D.agg ((ix r19.elems (0 + (r18.i).toNat)).parts.set 2 (p1.at 5)))).drop ((0 + ((r18.i).toNat - 0)) + (((r19.elems.set (0 + (r18.i).toNat) (D.agg ((ix r19.elems (0 + (r18.i).toNat)).parts.set 2 (p1.at 5)))).drop (0 + (ad .i64 r18.i 1).toNat)).take (r19.elems.length - (ad .i64 r18.i 1).toNat)).length))).drop ((0 + (((r18.i).toNat - 0) + (((r19.elems.set (0 + (r18.i).toNat) (D.agg ((ix r19.elems (0 + (r18.i).toNat)).parts.set 2 (p1.at 5)))).drop (0 + (ad .i64 r18.i 1).toNat)).take (r19.elems.length - (ad .i64 r18.i 1).toNat)).length)) + (r19.elems.length - (((r18.i).toNat - 0) + (((r19.elems.set (0 + (r18.i).toNat) (D.agg ((ix r19.elems (0 + (r18.i).toNat)).parts.set 2 (p1.at 5)))).drop (0 + (ad .i64 r18.i 1).toNat)).take (r19.elems.length - (ad .i64 r18.i 1).toNat)).length))))).drop 0).take (((r18.i).toNat - 0) + (((r19.elems.set (0 + (r18.i).toNat) (D.agg ((ix r19.elems (0 + (r18.i).toNat)).parts.set 2 (p1.at 5)))).drop (0 + (ad .i64 r18.i 1).toNat)).take (r19.elems.length - (ad .i64 r18.i 1).toNat)).length))), (p0.at 1), (p0.at 2)]), (di 0)])) none) none) none) none)) none) (some (D.tup [(da [(dl r19.nn (((r19.elems.set (0 + (r18.i).toNat) (D.agg ((ix r19.elems (0 + (r18.i).toNat)).parts.set 2 (p1.at 5)))).drop 0).take r19.elems.length)), (p0.at 1), (p0.at 2)]), (di 0)]))))))) none)))) (cond (eqI (p1.at 0).i 3) (bd (F29.s FUEL p0 (p1.at 1).i) fun r21 => (cond (ltI r21.i 0) (some (D.tup [p0, (di 13)])) (bd (F34.s FUEL (p0.at 0)) fun r22 => (cond (inb r21.i r22.elems.length) (bd (F61.s FUEL ((ix r22.elems (0 + (r21.i).toNat)).at 0) (p1.at 3).i) fun r23 => (cond (eqI (r23.at 1).i 0) (cond (!(eqI (r23.at 1).i 0)) (some (D.tup [p0, (di 13)])) (cond (eqI (p1.at 0).i 6) (cond ((leI 0 r21.i) && (leI r21.i (ad .i64 r21.i 1)) && (leI (ad .i64 r21.i 1) (nI r22.elems.length)) && (leI (nI r22.elems.length) (nI r22.elems.length)) && (eqN (0 + r22.elems.length) (r22.elems.set (0 + (r21.i).toNat) (D.agg ((ix r22.elems (0 + (r21.i).toNat)).parts.set 0 (r23.at 0)))).length)) (cond (eqI r21.i (ad .i64 r21.i 1)) (some (D.tup [(da [(dl r22.nn (((r22.elems.set (0 + (r21.i).toNat) (D.agg ((ix r22.elems (0 + (r21.i).toNat)).parts.set 0 (r23.at 0)))).drop 0).take r22.elems.length)), (p0.at 1), (p0.at 2)]), (di 0)])) (cond (true && (leI 0 r21.i) && (leN (0 + (r21.i).toNat) (r22.elems.set (0 + (r21.i).toNat) (D.agg ((ix r22.elems (0 + (r21.i).toNat)).parts.set 0 (r23.at 0)))).length)) (cond ((leI 0 (ad .i64 r21.i 1)) && (leI (ad .i64 r21.i 1) (nI r22.elems.length)) && (leN (0 + r22.elems.length) (r22.elems.set (0 + (r21.i).toNat) (D.agg ((ix r22.elems (0 + (r21.i).toNat)).parts.set 0 (r23.at 0)))).length)) (cond (leN ((0 + ((r21.i).toNat - 0)) + (((r22.elems.set (0 + (r21.i).toNat) (D.agg ((ix r22.elems (0 + (r21.i).toNat)).parts.set 0 (r23.at 0)))).drop (0 + (ad .i64 r21.i 1).toNat)).take (r22.elems.length - (ad .i64 r21.i 1).toNat)).length) (r22.elems.set (0 + (r21.i).toNat) (D.agg ((ix r22.elems (0 + (r21.i).toNat)).parts.set 0 (r23.at 0)))).length) (cond ((leI 0 (nI (((r21.i).toNat - 0) + (((r22.elems.set (0 + (r21.i).toNat) (D.agg ((ix r22.elems (0 + (r21.i).toNat)).parts.set 0 (r23.at 0)))).drop (0 + (ad .i64 r21.i 1).toNat)).take (r22.elems.length - (ad .i64 r21.i 1).toNat)).length))) && (leI (nI (((r21.i).toNat - 0) + (((r22.elems.set (0 + (r21.i).toNat) (D.agg ((ix r22.elems (0 + (r21.i).toNat)).parts.set 0 (r23.at 0)))).drop (0 + (ad .i64 r21.i 1).toNat)).take (r22.elems.length - (ad .i64 r21.i 1).toNat)).length)) (nI r22.elems.length)) && (leN (0 + r22.elems.length) (ap (ap ((r22.elems.set (0 + (r21.i).toNat) (D.agg ((ix r22.elems (0 + (r21.i).toNat)).parts.set 0 (r23.at 0)))).take (0 + ((r21.i).toNat - 0))) (((r22.elems.set (0 + (r21.i).toNat) (D.agg ((ix r22.elems (0 + (r21.i).toNat)).parts.set 0 (r23.at 0)))).drop (0 + (ad .i64 r21.i 1).toNat)).take (r22.elems.length - (ad .i64 r21.i 1).toNat))) ((r22.elems.set (0 + (r21.i).toNat) (D.agg ((ix r22.elems (0 + (r21.i).toNat)).parts.set 0 (r23.at 0)))).drop ((0 + ((r21.i).toNat - 0)) + (((r22.elems.set (0 + (r21.i).toNat) (D.agg ((ix r22.elems (0 + (r21.i).toNat)).parts.set 0 (r23.at 0)))).drop (0 + (ad .i64 r21.i 1).toNat)).take (r22.elems.length - (ad .i64 r21.i 1).toNat)).length))).length)) (some (D.tup [(da [(dl r22.nn (((ap (ap ((ap (ap ((r22.elems.set (0 + (r21.i).toNat) (D.agg ((ix r22.elems (0 + (r21.i).toNat)).parts.set 0 (r23.at 0)))).take (0 + ((r21.i).toNat - 0))) (((r22.elems.set (0 + (r21.i).toNat) (D.agg ((ix r22.elems (0 + (r21.i).toNat)).parts.set 0 (r23.at 0)))).drop (0 + (ad .i64 r21.i 1).toNat)).take (r22.elems.length - (ad .i64 r21.i 1).toNat))) ((r22.elems.set (0 + (r21.i).toNat) (D.agg ((ix r22.elems (0 + (r21.i).toNat)).parts.set 0 (r23.at 0)))).drop ((0 + ((r21.i).toNat - 0)) + (((r22.elems.set (0 + (r21.i).toNat) (D.agg ((ix r22.elems (0 + (r21.i).toNat)).parts.set 0 (r23.at 0)))).drop (0 + (ad .i64 r21.i 1).toNat)).take (r22.elems.length - (ad .i64 r21.i 1).toNat)).length))).take (0 + (((r21.i).toNat - 0) + (((r22.elems.set (0 + (r21.i).toNat) (D.agg ((ix r22.elems (0 + (r21.i).toNat)).parts.set 0 (r23.at 0)))).drop (0 + (ad .i64 r21.i 1).toNat)).take (r22.elems.length - (ad .i64 r21.i 1).toNat)).length))) (rp (r22.elems.length - (((r21.i).toNat - 0) + (((r22.elems.set (0 + (r21.i).toNat) (D.agg ((ix r22.elems (0 + (r21.i).toNat)).parts.set 0 (r23.at 0)))).drop (0 + (ad .i64 r21.i 1).toNat)).take (r22.elems.length - (ad .i64 r21.i 1).toNat)).length)) (da [(da [(di 0), (dS (bs [])), (dS (bs [])), (db false), (di 0), (dl false [])]), (di 0), (da (rp 32 (D.int .u8 0)))]))) ((ap (ap ((r22.elems.set (0 + (r21.i).toNat) (D.agg ((ix r22.elems (0 + (r21.i).toNat)).parts.set 0 (r23.at 0)))).take (0 + ((r21.i).toNat - 0))) (((r22.elems.set (0 + (r21.i).toNat) (D.agg ((ix r22.elems (0 + (r21.i).toNat)).parts.set 0 (r23.at 0)))).drop (0 + (ad .i64 r21.i 1).toNat)).take (r22.elems.length - (ad .i64 r21.i 1).toNat))) ((r22.elems.set (0 + (r21.i).toNat) (D.agg ((ix r22.elems (0 + (r21.i).toNat)).parts.set 0 (r23.at 0)))).drop ((0 + ((r21.i).toNat - 0)) + (((r22.elems.set (0 + (r21.i).toNat) (D.agg ((ix r22.elems (0 + (r21.i).toNat)).parts.set 0 (r23.at 0)))).drop (0 + (ad .i64 r21.i 1).toNat)).take (r22.elems.length - (ad .i64 r21.i 1).toNat)).length))).drop ((0 + (((r21.i).toNat - 0) + (((r22.elems.set (0 + (r21.i).toNat) (D.agg ((ix r22.elems (0 + (r21.i).toNat)).parts.set 0 (r23.at 0)))).drop (0 + (ad .i64 r21.i 1).toNat)).take (r22.elems.length - (ad .i64 r21.i 1).toNat)).length)) + (r22.elems.length - (((r21.i).toNat - 0) + (((r22.elems.set (0 + (r21.i).toNat) (D.agg ((ix r22.elems (0 + (r21.i).toNat)).parts.set 0 (r23.at 0)))).drop (0 + (ad .i64 r21.i 1).toNat)).take (r22.elems.length - (ad .i64 r21.i 1).toNat)).length))))).drop 0).take (((r21.i).toNat - 0) + (((r22.elems.set (0 + (r21.i).toNat) (D.agg ((ix r22.elems (0 + (r21.i).toNat)).parts.set 0 (r23.at 0)))).drop (0 + (ad .i64 r21.i 1).toNat)).take (r22.elems.length - (ad .i64 r21.i 1).toNat)).length))), (p0.at 1), (p0.at 2)]), (di 0)])) none) none) none) none)) none) (some (D.tup [(da [(dl r22.nn (((r22.elems.set (0 + (r21.i).toNat) (D.agg ((ix r22.elems (0 + (r21.i).toNat)).parts.set 0 (r23.at 0)))).drop 0).take r22.elems.length)), (p0.at 1), (p0.at 2)]), (di 0)])))) (cond (!(eqI (r23.at 1).i 0)) (some (D.tup [p0, (di 13)])) (cond (eqI (p1.at 0).i 6) (cond ((leI 0 r21.i) && (leI r21.i (ad .i64 r21.i 1)) && (leI (ad .i64 r21.i 1) (nI r22.elems.length)) && (leI (nI r22.elems.length) (nI r22.elems.length)) && (eqN (0 + r22.elems.length) r22.elems.length)) (cond (eqI r21.i (ad .i64 r21.i 1)) (some (D.tup [(da [(dl r22.nn ((r22.elems.drop 0).take r22.elems.length)), (p0.at 1), (p0.at 2)]), (di 0)])) (cond (true && (leI 0 r21.i) && (leN (0 + (r21.i).toNat) r22.elems.length)) (cond ((leI 0 (ad .i64 r21.i 1)) && (leI (ad .i64 r21.i 1) (nI r22.elems.length)) && (leN (0 + r22.elems.length) r22.elems.length)) (cond (leN ((0 + ((r21.i).toNat - 0)) + ((r22.elems.drop (0 + (ad .i64 r21.i 1).toNat)).take (r22.elems.length - (ad .i64 r21.i 1).toNat)).length) r22.elems.length) (cond ((leI 0 (nI (((r21.i).toNat - 0) + ((r22.elems.drop (0 + (ad .i64 r21.i 1).toNat)).take (r22.elems.length - (ad .i64 r21.i 1).toNat)).length))) && (leI (nI (((r21.i).toNat - 0) + ((r22.elems.drop (0 + (ad .i64 r21.i 1).toNat)).take (r22.elems.length - (ad .i64 r21.i 1).toNat)).length)) (nI r22.elems.length)) && (leN (0 + r22.elems.length) (ap (ap (r22.elems.take (0 + ((r21.i).toNat - 0))) ((r22.elems.drop (0 + (ad .i64 r21.i 1).toNat)).take (r22.elems.length - (ad .i64 r21.i 1).toNat))) (r22.elems.drop ((0 + ((r21.i).toNat - 0)) + ((r22.elems.drop (0 + (ad .i64 r21.i 1).toNat)).take (r22.elems.length - (ad .i64 r21.i 1).toNat)).length))).length)) (some (D.tup [(da [(dl r22.nn (((ap (ap ((ap (ap (r22.elems.take (0 + ((r21.i).toNat - 0))) ((r22.elems.drop (0 + (ad .i64 r21.i 1).toNat)).take (r22.elems.length - (ad .i64 r21.i 1).toNat))) (r22.elems.drop ((0 + ((r21.i).toNat - 0)) + ((r22.elems.drop (0 + (ad .i64 r21.i 1).toNat)).take (r22.elems.length - (ad .i64 r21.i 1).toNat)).length))).take (0 + (((r21.i).toNat - 0) + ((r22.elems.drop (0 + (ad .i64 r21.i 1).toNat)).take (r22.elems.length - (ad .i64 r21.i 1).toNat)).length))) (rp (r22.elems.length - (((r21.i).toNat - 0) + ((r22.elems.drop (0 + (ad .i64 r21.i 1).toNat)).take (r22.elems.length - (ad .i64 r21.i 1).toNat)).length)) (da [(da [(di 0), (dS (bs [])), (dS (bs [])), (db false), (di 0), (dl false [])]), (di 0), (da (rp 32 (D.int .u8 0)))]))) ((ap (ap (r22.elems.take (0 + ((r21.i).toNat - 0))) ((r22.elems.drop (0 + (ad .i64 r21.i 1).toNat)).take (r22.elems.length - (ad .i64 r21.i 1).toNat))) (r22.elems.drop ((0 + ((r21.i).toNat - 0)) + ((r22.elems.drop (0 + (ad .i64 r21.i 1).toNat)).take (r22.elems.length - (ad .i64 r21.i 1).toNat)).length))).drop ((0 + (((r21.i).toNat - 0) + ((r22.elems.drop (0 + (ad .i64 r21.i 1).toNat)).take (r22.elems.length - (ad .i64 r21.i 1).toNat)).length)) + (r22.elems.length - (((r21.i).toNat - 0) + ((r22.elems.drop (0 + (ad .i64 r21.i 1).toNat)).take (r22.elems.length - (ad .i64 r21.i 1).toNat)).length))))).drop 0).take (((r21.i).toNat - 0) + ((r22.elems.drop (0 + (ad .i64 r21.i 1).toNat)).take (r22.elems.length - (ad .i64 r21.i 1).toNat)).length))), (p0.at 1), (p0.at 2)]), (di 0)])) none) none) none) none)) none) (some (D.tup [(da [(dl r22.nn ((r22.elems.drop 0).take r22.elems.length)), (p0.at 1), (p0.at 2)]), (di 0)])))))) none)))) (cond (eqI (p1.at 0).i 4) (bd (F29.s FUEL p0 (p1.at 1).i) fun r24 => (cond (ltI r24.i 0) (some (D.tup [p0, (di 13)])) (bd (F34.s FUEL (p0.at 0)) fun r25 => (cond (inb r24.i r25.elems.length) (bd (F63.s FUEL ((ix r25.elems (0 + (r24.i).toNat)).at 0) (p1.at 2).s) fun r26 => (cond (eqI (r26.at 1).i 0) (cond (!(eqI (r26.at 1).i 0)) (some (D.tup [p0, (di 13)])) (cond (eqI (p1.at 0).i 6) (cond ((leI 0 r24.i) && (leI r24.i (ad .i64 r24.i 1)) && (leI (ad .i64 r24.i 1) (nI r25.elems.length)) && (leI (nI r25.elems.length) (nI r25.elems.length)) && (eqN (0 + r25.elems.length) (r25.elems.set (0 + (r24.i).toNat) (D.agg ((ix r25.elems (0 + (r24.i).toNat)).parts.set 0 (r26.at 0)))).length)) (cond (eqI r24.i (ad .i64 r24.i 1)) (some (D.tup [(da [(dl r25.nn (((r25.elems.set (0 + (r24.i).toNat) (D.agg ((ix r25.elems (0 + (r24.i).toNat)).parts.set 0 (r26.at 0)))).drop 0).take r25.elems.length)), (p0.at 1), (p0.at 2)]), (di 0)])) (cond (true && (leI 0 r24.i) && (leN (0 + (r24.i).toNat) (r25.elems.set (0 + (r24.i).toNat) (D.agg ((ix r25.elems (0 + (r24.i).toNat)).parts.set 0 (r26.at 0)))).length)) (cond ((leI 0 (ad .i64 r24.i 1)) && (leI (ad .i64 r24.i 1) (nI r25.elems.length)) && (leN (0 + r25.elems.length) (r25.elems.set (0 + (r24.i).toNat) (D.agg ((ix r25.elems (0 + (r24.i).toNat)).parts.set 0 (r26.at 0)))).length)) (cond (leN ((0 + ((r24.i).toNat - 0)) + (((r25.elems.set (0 + (r24.i).toNat) (D.agg ((ix r25.elems (0 + (r24.i).toNat)).parts.set 0 (r26.at 0)))).drop (0 + (ad .i64 r24.i 1).toNat)).take (r25.elems.length - (ad .i64 r24.i 1).toNat)).length) (r25.elems.set (0 + (r24.i).toNat) (D.agg ((ix r25.elems (0 + (r24.i).toNat)).parts.set 0 (r26.at 0)))).length) (cond ((leI 0 (nI (((r24.i).toNat - 0) + (((r25.elems.set (0 + (r24.i).toNat) (D.agg ((ix r25.elems (0 + (r24.i).toNat)).parts.set 0 (r26.at 0)))).drop (0 + (ad .i64 r24.i 1).toNat)).take (r25.elems.length - (ad .i64 r24.i 1).toNat)).length))) && (leI (nI (((r24.i).toNat - 0) + (((r25.elems.set (0 + (r24.i).toNat) (D.agg ((ix r25.elems (0 + (r24.i).toNat)).parts.set 0 (r26.at 0)))).drop (0 + (ad .i64 r24.i 1).toNat)).take (r25.elems.length - (ad .i64 r24.i 1).toNat)).length)) (nI r25.elems.length)) && (leN (0 + r25.elems.length) (ap (ap ((r25.elems.set (0 + (r24.i).toNat) (D.agg ((ix r25.elems (0 + (r24.i).toNat)).parts.set 0 (r26.at 0)))).take (0 + ((r24.i).toNat - 0))) (((r25.elems.set (0 + (r24.i).toNat) (D.agg ((ix r25.elems (0 + (r24.i).toNat)).parts.set 0 (r26.at 0)))).drop (0 + (ad .i64 r24.i 1).toNat)).take (r25.elems.length - (ad .i64 r24.i 1).toNat))) ((r25.elems.set (0 + (r24.i).toNat) (D.agg ((ix r25.elems (0 + (r24.i).toNat)).parts.set 0 (r26.at 0)))).drop ((0 + ((r24.i).toNat - 0)) + (((r25.elems.set (0 + (r24.i).toNat) (D.agg ((ix r25.elems (0 + (r24.i).toNat)).parts.set 0 (r26.at 0)))).drop (0 + (ad .i64 r24.i 1).toNat)).take (r25.elems.length - (ad .i64 r24.i 1).toNat)).length))).length)) (some (D.tup [(da [(dl r25.nn (((ap (ap ((ap (ap ((r25.elems.set (0 + (r24.i).toNat) (D.agg ((ix r25.elems (0 + (r24.i).toNat)).parts.set 0 (r26.at 0)))).take (0 + ((r24.i).toNat - 0))) (((r25.elems.set (0 + (r24.i).toNat) (D.agg ((ix r25.elems (0 + (r24.i).toNat)).parts.set 0 (r26.at 0)))).drop (0 + (ad .i64 r24.i 1).toNat)).take (r25.elems.length - (ad .i64 r24.i 1).toNat))) ((r25.elems.set (0 + (r24.i).toNat) (D.agg ((ix r25.elems (0 + (r24.i).toNat)).parts.set 0 (r26.at 0)))).drop ((0 + ((r24.i).toNat - 0)) + (((r25.elems.set (0 + (r24.i).toNat) (D.agg ((ix r25.elems (0 + (r24.i).toNat)).parts.set 0 (r26.at 0)))).drop (0 + (ad .i64 r24.i 1).toNat)).take (r25.elems.length - (ad .i64 r24.i 1).toNat)).length))).take (0 + (((r24.i).toNat - 0) + (((r25.elems.set (0 + (r24.i).toNat) (D.agg ((ix r25.elems (0 + (r24.i).toNat)).parts.set 0 (r26.at 0)))).drop (0 + (ad .i64 r24.i 1).toNat)).take (r25.elems.length - (ad .i64 r24.i 1).toNat)).length))) (rp (r25.elems.length - (((r24.i).toNat - 0) + (((r25.elems.set (0 + (r24.i).toNat) (D.agg ((ix r25.elems (0 + (r24.i).toNat)).parts.set 0 (r26.at 0)))).drop (0 + (ad .i64 r24.i 1).toNat)).take (r25.elems.length - (ad .i64 r24.i 1).toNat)).length)) (da [(da [(di 0), (dS (bs [])), (dS (bs [])), (db false), (di 0), (dl false [])]), (di 0), (da (rp 32 (D.int .u8 0)))]))) ((ap (ap ((r25.elems.set (0 + (r24.i).toNat) (D.agg ((ix r25.elems (0 + (r24.i).toNat)).parts.set 0 (r26.at 0)))).take (0 + ((r24.i).toNat - 0))) (((r25.elems.set (0 + (r24.i).toNat) (D.agg ((ix r25.elems (0 + (r24.i).toNat)).parts.set 0 (r26.at 0)))).drop (0 + (ad .i64 r24.i 1).toNat)).take (r25.elems.length - (ad .i64 r24.i 1).toNat))) ((r25.elems.set (0 + (r24.i).toNat) (D.agg ((ix r25.elems (0 + (r24.i).toNat)).parts.set 0 (r26.at 0)))).drop ((0 + ((r24.i).toNat - 0)) + (((r25.elems.set (0 + (r24.i).toNat) (D.agg ((ix r25.elems (0 + (r24.i).toNat)).parts.set 0 (r26.at 0)))).drop (0 + (ad .i64 r24.i 1).toNat)).take (r25.elems.length - (ad .i64 r24.i 1).toNat)).length))).drop ((0 + (((r24.i).toNat - 0) + (((r25.elems.set (0 + (r24.i).toNat) (D.agg ((ix r25.elems (0 + (r24.i).toNat)).parts.set 0 (r26.at 0)))).drop (0 + (ad .i64 r24.i 1).toNat)).take (r25.elems.length - (ad .i64 r24.i 1).toNat)).length)) + (r25.elems.length - (((r24.i).toNat - 0) + (((r25.elems.set (0 + (r24.i).toNat) (D.agg ((ix r25.elems (0 + (r24.i).toNat)).parts.set 0 (r26.at 0)))).drop (0 + (ad .i64 r24.i 1).toNat)).take (r25.elems.length - (ad .i64 r24.i 1).toNat)).length))))).drop 0).take (((r24.i).toNat - 0) + (((r25.elems.set (0 + (r24.i).toNat) (D.agg ((ix r25.elems (0 + (r24.i).toNat)).parts.set 0 (r26.at 0)))).drop (0 + (ad .i64 r24.i 1).toNat)).take (r25.elems.length - (ad .i64 r24.i 1).toNat)).length))), (p0.at 1), (p0.at 2)]), (di 0)])) none) none) none) none)) none) (some (D.tup [(da [(dl r25.nn (((r25.elems.set (0 + (r24.i).toNat) (D.agg ((ix r25.elems (0 + (r24.i).toNat)).parts.set 0 (r26.at 0)))).drop 0).take r25.elems.length)), (p0.at 1), (p0.at 2)]), (di 0)])))) (cond (!(eqI (r26.at 1).i 0)) (some (D.tup [p0, (di 13)])) (cond (eqI (p1.at 0).i 6) (cond ((leI 0 r24.i) && (leI r24.i (ad .i64 r24.i 1)) && (leI (ad .i64 r24.i 1) (nI r25.elems.length)) && (leI (nI r25.elems.length) (nI r25.elems.length)) && (eqN (0 + r25.elems.length) r25.elems.length)) (cond (eqI r24.i (ad .i64 r24.i 1)) (some (D.tup [(da [(dl r25.nn ((r25.elems.drop 0).take r25.elems.length)), (p0.at 1), (p0.at 2)]), (di 0)])) (cond (true && (leI 0 r24.i) && (leN (0 + (r24.i).toNat) r25.elems.length)) (cond ((leI 0 (ad .i64 r24.i 1)) && (leI (ad .i64 r24.i 1) (nI r25.elems.length)) && (leN (0 + r25.elems.length) r25.elems.length)) (cond (leN ((0 + ((r24.i).toNat - 0)) + ((r25.elems.drop (0 + (ad .i64 r24.i 1).toNat)).take (r25.elems.length - (ad .i64 r24.i 1).toNat)).length) r25.elems.length) (cond ((leI 0 (nI (((r24.i).toNat - 0) + ((r25.elems.drop (0 + (ad .i64 r24.i 1).toNat)).take (r25.elems.length - (ad .i64 r24.i 1).toNat)).length))) && (leI (nI (((r24.i).toNat - 0) + ((r25.elems.drop (0 + (ad .i64 r24.i 1).toNat)).take (r25.elems.length - (ad .i64 r24.i 1).toNat)).length)) (nI r25.elems.length)) && (leN (0 + r25.elems.length) (ap (ap (r25.elems.take (0 + ((r24.i).toNat - 0))) ((r25.elems.drop (0 + (ad .i64 r24.i 1).toNat)).take (r25.elems.length - (ad .i64 r24.i 1).toNat))) (r25.elems.drop ((0 + ((r24.i).toNat - 0)) + ((r25.elems.drop (0 + (ad .i64 r24.i 1).toNat)).take (r25.elems.length - (ad .i64 r24.i 1).toNat)).length))).length)) (some (D.tup [(da [(dl r25.nn (((ap (ap ((ap (ap (r25.elems.take (0 + ((r24.i).toNat - 0))) ((r25.elems.drop (0 + (ad .i64 r24.i 1).toNat)).take (r25.elems.length - (ad .i64 r24.i 1).toNat))) (r25.elems.drop ((0 + ((r24.i).toNat - 0)) + ((r25.elems.drop (0 + (ad .i64 r24.i 1).toNat)).take (r25.elems.length - (ad .i64 r24.i 1).toNat)).length))).take (0 + (((r24.i).toNat - 0) + ((r25.elems.drop (0 + (ad .i64 r24.i 1).toNat)).take (r25.elems.length - (ad .i64 r24.i 1).toNat)).length))) (rp (r25.elems.length - (((r24.i).toNat - 0) + ((r25.elems.drop (0 + (ad .i64 r24.i 1).toNat)).take (r25.elems.length - (ad .i64 r24.i 1).toNat)).length)) (da [(da [(di 0), (dS (bs [])), (dS (bs [])), (db false), (di 0), (dl false [])]), (di 0), (da (rp 32 (D.int .u8 0)))]))) ((ap (ap (r25.elems.take (0 + ((r24.i).toNat - 0))) ((r25.elems.drop (0 + (ad .i64 r24.i 1).toNat)).take (r25.elems.length - (ad .i64 r24.i 1).toNat))) (r25.elems.drop ((0 + ((r24.i).toNat - 0)) + ((r25.elems.drop (0 + (ad .i64 r24.i 1).toNat)).take (r25.elems.length - (ad .i64 r24.i 1).toNat)).length))).drop ((0 + (((r24.i).toNat - 0) + ((r25.elems.drop (0 + (ad .i64 r24.i 1).toNat)).take (r25.elems.length - (ad .i64 r24.i 1).toNat)).length)) + (r25.elems.length - (((r24.i).toNat - 0) + ((r25.elems.drop (0 + (ad .i64 r24.i 1).toNat)).take (r25.elems.length - (ad .i64 r24.i 1).toNat)).length))))).drop 0).take (((r24.i).toNat - 0) + ((r25.elems.drop (0 + (ad .i64 r24.i 1).toNat)).take (r25.elems.length - (ad .i64 r24.i 1).toNat)).length))), (p0.at 1), (p0.at 2)]), (di 0)])) none) none) none) none)) none) (some (D.tup [(da [(dl r25.nn ((r25.elems.drop 0).take r25.elems.length)), (p0.at 1), (p0.at 2)]), (di 0)])))))) none)))) (cond (eqI (p1.at 0).i 5) (bd (F29.s FUEL p0 (p1.at 1).i) fun r27 => (cond (ltI r27.i 0) (some (D.tup [p0, (di 13)])) (bd (F34.s FUEL (p0.at 0)) fun r28 => (cond (inb r27.i r28.elems.length) (bd (F65.s FUEL ((ix r28.elems (0 + (r27.i).toNat)).at 0) (p1.at 2).s) fun r29 => (cond (eqI (r29.at 1).i 0) (cond (!(eqI (r29.at 1).i 0)) (some (D.tup [p0, (di 13)])) (cond (eqI (p1.at 0).i 6) (cond ((leI 0 r27.i) && (leI r27.i (ad .i64 r27.i 1)) && (leI (ad .i64 r27.i 1) (nI r28.elems.length)) && (leI (nI r28.elems.length) (nI r28.elems.length)) && (eqN (0 + r28.elems.length) (r28.elems.set (0 + (r27.i).toNat) (D.agg ((ix r28.elems (0 + (r27.i).toNat)).parts.set 0 (r29.at 0)))).length)) (cond (eqI r27.i (ad .i64 r27.i 1)) (some (D.tup [(da [(dl r28.nn (((r28.elems.set (0 + (r27.i).toNat) (D.agg ((ix r28.elems (0 + (r27.i).toNat)).parts.set 0 (r29.at 0)))).drop 0).take r28.elems.length)), (p0.at 1), (p0.at 2)]), (di 0)])) (cond (true && (leI 0 r27.i) && (leN (0 + (r27.i).toNat) (r28.elems.set (0 + (r27.i).toNat) (D.agg ((ix r28.elems (0 + (r27.i).toNat)).parts.set 0 (r29.at 0)))).length)) (cond ((leI 0 (ad .i64 r27.i 1)) && (leI (ad .i64 r27.i 1) (nI r28.elems.length)) && (leN (0 + r28.elems.length) (r28.elems.set (0 + (r27.i).toNat) (D.agg ((ix r28.elems (0 + (r27.i).toNat)).parts.set 0 (r29.at 0)))).length)) (cond (leN ((0 + ((r27.i).toNat - 0)) + (((r28.elems.set (0 + (r27.i).toNat) (D.agg ((ix r28.elems (0 + (r27.i).toNat)).parts.set 0 (r29.at 0)))).drop (0 + (ad .i64 r27.i 1).toNat)).take (r28.elems.length - (ad .i64 r27.i 1).toNat)).length) (r28.elems.set (0 + (r27.i).toNat) (D.agg ((ix r28.elems (0 + (r27.i).toNat)).parts.set 0 (r29.at 0)))).length) (cond ((leI 0 (nI (((r27.i).toNat - 0) + (((r28.elems.set (0 + (r27.i).toNat) (D.agg ((ix r28.elems (0 + (r27.i).toNat)).parts.set 0 (r29.at 0)))).drop (0 + (ad .i64 r27.i 1).toNat)).take (r28.elems.length - (ad .i64 r27.i 1).toNat)).length))) && (leI (nI (((r27.i).toNat - 0) + (((r28.elems.set (0 + (r27.i).toNat) (D.agg ((ix r28.elems (0 + (r27.i).toNat)).parts.set 0 (r29.at 0)))).drop (0 + (ad .i64 r27.i 1).toNat)).take (r28.elems.length - (ad .i64 r27.i 1).toNat)).length)) (nI r28.elems.length)) && (leN (0 + r28.elems.length) (ap (ap ((r28.elems.set (0 + (r27.i).toNat) (D.agg ((ix r28.elems (0 + (r27.i).toNat)).parts.set 0 (r29.at 0)))).take (0 + ((r27.i).toNat - 0))) (((r28.elems.set (0 + (r27.i).toNat) (D.agg ((ix r28.elems (0 + (r27.i).toNat)).parts.set 0 (r29.at 0)))).drop (0 + (ad .i64 r27.i 1).toNat)).take (r28.elems.length - (ad .i64 r27.i 1).toNat))) ((r28.elems.set (0 + (r27.i).toNat) (D.agg ((ix r28.elems (0 + (r27.i).toNat)).parts.set 0 (r29.at 0)))).drop ((0 + ((r27.i).toNat - 0)) + (((r28.elems.set (0 + (r27.i).toNat) (D.agg ((ix r28.elems (0 + (r27.i).toNat)).parts.set 0 (r29.at 0)))).drop (0 + (ad .i64 r27.i 1).toNat)).take (r28.elems.length - (ad .i64 r27.i 1).toNat)).length))).length)) (some (D.tup [(da [(dl r28.nn (((ap (ap ((ap (ap ((r28.elems.set (0 + (r27.i).toNat) (D.agg ((ix r28.elems (0 + (r27.i).toNat)).parts.set 0 (r29.at 0)))).take (0 + ((r27.i).toNat - 0))) (((r28.elems.set (0 + (r27.i).toNat) (D.agg ((ix r28.elems (0 + (r27.i).toNat)).parts.set 0 (r29.at 0)))).drop (0 + (ad .i64 r27.i 1).toNat)).take (r28.elems.length - (ad .i64 r27.i 1).toNat))) ((r28.elems.set (0 + (r27.i).toNat) (D.agg ((ix r28.elems (0 + (r27.i).toNat)).parts.set 0 (r29.at 0)))).drop ((0 + ((r27.i).toNat - 0)) + (((r28.elems.set (0 + (r27.i).toNat) (D.agg ((ix r28.elems (0 + (r27.i).toNat)).parts.set 0 (r29.at 0)))).drop (0 + (ad .i64 r27.i 1).toNat)).take (r28.elems.length - (ad .i64 r27.i 1).toNat)).length))).take (0 + (((r27.i).toNat - 0) + (((r28.elems.set (0 + (r27.i).toNat) (D.agg ((ix r28.elems (0 + (r27.i).toNat)).parts.set 0 (r29.at 0)))).drop (0 + (ad .i64 r27.i 1).toNat)).take (r28.elems.length - (ad .i64 r27.i 1).toNat)).length))) (rp (r28.elems.length - (((r27.i).toNat - 0) + (((r28.elems.set (0 + (r27.i).toNat) (D.agg ((ix r28.elems (0 + (r27.i).toNat)).parts.set 0 (r29.at 0)))).drop (0 + (ad .i64 r27.i 1).toNat)).take (r28.elems.length - (ad .i64 r27.i 1).toNat)).length)) (da [(da [(di 0), (dS (bs [])), (dS (bs [])), (db false), (di 0), (dl false [])]), (di 0), (da (rp 32 (D.int .u8 0)))]))) ((ap (ap ((r28.elems.set (0 + (r27.i).toNat) (D.agg ((ix r28.elems (0 + (r27.i).toNat)).parts.set 0 (r29.at 0)))).take (0 + ((r27.i).toNat - 0))) (((r28.elems.set (0 + (r27.i).toNat) (D.agg ((ix r28.elems (0 + (r27.i).toNat)).parts.set 0 (r29.at 0)))).drop (0 + (ad .i64 r27.i 1).toNat)).take (r28.elems.length - (ad .i64 r27.i 1).toNat))) ((r28.elems.set (0 + (r27.i).toNat) (D.agg ((ix r28.elems (0 + (r27.i).toNat)).parts.set 0 (r29.at 0)))).drop ((0 + ((r27.i).toNat - 0)) + (((r28.elems.set (0 + (r27.i).toNat) (D.agg ((ix r28.elems (0 + (r27.i).toNat)).parts.set 0 (r29.at 0)))).drop (0 + (ad .i64 r27.i 1).toNat)).take (r28.elems.length - (ad .i64 r27.i 1).toNat)).length))).drop ((0 + (((r27.i).toNat - 0) + (((r28.elems.set (0 + (r27.i).toNat) (D.agg ((ix r28.elems (0 + (r27.i).toNat)).parts.set 0 (r29.at 0)))).drop (0 + (ad .i64 r27.i 1).toNat)).take (r28.elems.length - (ad .i64 r27.i 1).toNat)).length)) + (r28.elems.length - (((r27.i).toNat - 0) + (((r28.elems.set (0 + (r27.i).toNat) (D.agg ((ix r28.elems (0 + (r27.i).toNat)).parts.set 0 (r29.at 0)))).drop (0 + (ad .i64 r27.i 1).toNat)).take (r28.elems.length - (ad .i64 r27.i 1).toNat)).length))))).drop 0).take (((r27.i).toNat - 0) + (((r28.elems.set (0 + (r27.i).toNat) (D.agg ((ix r28.elems (0 + (r27.i).toNat)).parts.set 0 (r29.at 0)))).drop (0 + (ad .i64 r27.i 1).toNat)).take (r28.elems.length - (ad .i64 r27.i 1).toNat)).length))), (p0.at 1), (p0.at 2)]), (di 0)])) none) none) none) none)) none) (some (D.tup [(da [(dl r28.nn (((r28.elems.set (0 + (r27.i).toNat) (D.agg ((ix r28.elems (0 + (r27.i).toNat)).parts.set 0 (r29.at 0)))).drop 0).take r28.elems.length)), (p0.at 1), (p0.at 2)]), (di 0)])))) (cond (!(eqI (r29.at 1).i 0)) (some (D.tup [p0, (di 13)])) (cond (eqI (p1.at 0).i 6) (cond ((leI 0 r27.i) && (leI r27.i (ad .i64 r27.i 1)) && (leI (ad .i64 r27.i 1) (nI r28.elems.length)) && (leI (nI r28.elems.length) (nI r28.elems.length)) && (eqN (0 + r28.elems.length) r28.elems.length)) (cond (eqI r27.i (ad .i64 r27.i 1)) (some (D.tup [(da [(dl r28.nn ((r28.elems.drop 0).take r28.elems.length)), (p0.at 1), (p0.at 2)]), (di 0)])) (cond (true && (leI 0 r27.i) && (leN (0 + (r27.i).toNat) r28.elems.length)) (cond ((leI 0 (ad .i64 r27.i 1)) && (leI (ad .i64 r27.i 1) (nI r28.elems.length)) && (leN (0 + r28.elems.length) r28.elems.length)) (cond (leN ((0 + ((r27.i).toNat - 0)) + ((r28.elems.drop (0 + (ad .i64 r27.i 1).toNat)).take (r28.elems.length - (ad .i64 r27.i 1).toNat)).length) r28.elems.length) (cond ((leI 0 (nI (((r27.i).toNat - 0) + ((r28.elems.drop (0 + (ad .i64 r27.i 1).toNat)).take (r28.elems.length - (ad .i64 r27.i 1).toNat)).length))) && (leI (nI (((r27.i).toNat - 0) + ((r28.elems.drop (0 + (ad .i64 r27.i 1).toNat)).take (r28.elems.length - (ad .i64 r27.i 1).toNat)).length)) (nI r28.elems.length)) && (leN (0 + r28.elems.length) (ap (ap (r28.elems.take (0 + ((r27.i).toNat - 0))) ((r28.elems.drop (0 + (ad .i64 r27.i 1).toNat)).take (r28.elems.length - (ad .i64 r27.i 1).toNat))) (r28.elems.drop ((0 + ((r27.i).toNat - 0)) + ((r28.elems.drop (0 + (ad .i64 r27.i 1).toNat)).take (r28.elems.length - (ad .i64 r27.i 1).toNat)).length))).length)) (some (D.tup [(da [(dl r28.nn (((ap (ap ((ap (ap (r28.elems.take (0 + ((r27.i).toNat - 0))) ((r28.elems.drop (0 + (ad .i64 r27.i 1).toNat)).take (r28.elems.length - (ad .i64 r27.i 1).toNat))) (r28.elems.drop ((0 + ((r27.i).toNat - 0)) + ((r28.elems.drop (0 + (ad .i64 r27.i 1).toNat)).take (r28.elems.length - (ad .i64 r27.i 1).toNat)).length))).take (0 + (((r27.i).toNat - 0) + ((r28.elems.drop (0 + (ad .i64 r27.i 1).toNat)).take (r28.elems.length - (ad .i64 r27.i 1).toNat)).length))) (rp (r28.elems.length - (((r27.i).toNat - 0) + ((r28.elems.drop (0 + (ad .i64 r27.i 1).toNat)).take (r28.elems.length - (ad .i64 r27.i 1).toNat)).length)) (da [(da [(di 0), (dS (bs [])), (dS (bs [])), (db false), (di 0), (dl false [])]), (di 0), (da (rp 32 (D.int .u8 0)))]))) ((ap (ap (r28.elems.take (0 + ((r27.i).toNat - 0))) ((r28.elems.drop (0 + (ad .i64 r27.i 1).toNat)).take (r28.elems.length - (ad .i64 r27.i 1).toNat))) (r28.elems.drop ((0 + ((r27.i).toNat - 0)) + ((r28.elems.drop (0 + (ad .i64 r27.i 1).toNat)).take (r28.elems.length - (ad .i64 r27.i 1).toNat)).length))).drop ((0 + (((r27.i).toNat - 0) + ((r28.elems.drop (0 + (ad .i64 r27.i 1).toNat)).take (r28.elems.length - (ad .i64 r27.i 1).toNat)).length)) + (r28.elems.length - (((r27.i).toNat - 0) + ((r28.elems.drop (0 + (ad .i64 r27.i 1).toNat)).take (r28.elems.length - (ad .i64 r27.i 1).toNat)).length))))).drop 0).take (((r27.i).toNat - 0) + ((r28.elems.drop (0 + (ad .i64 r27.i 1).toNat)).take (r28.elems.length - (ad .i64 r27.i 1).toNat)).length))), (p0.at 1), (p0.at 2)]), (di 0)])) none) none) none) none)) none) (some (D.tup [(da [(dl r28.nn ((r28.elems.drop 0).take r28.elems.length)), (p0.at 1), (p0.at 2)]), (di 0)])))))) none)))) (bd (F29.s FUEL p0 (p1.at 1).i) fun r30 => (cond (ltI r30.i 0) (some (D.tup [p0, (di 13)])) (bd (F34.s FUEL (p0.at 0)) fun r31 => (cond (inb r30.i r31.elems.length) (bd (F44.s FUEL ((ix r31.elems (0 + (r30.i).toNat)).at 0) (p0.at 2).i) fun r32 => (cond (!(eqI r32.i 0)) (some (D.tup [p0, (di 13)])) (cond (eqI (p1.at 0).i 6) (cond ((leI 0 r30.i) && (leI r30.i (ad .i64 r30.i 1)) && (leI (ad .i64 r30.i 1) (nI r31.elems.length)) && (leI (nI r31.elems.length) (nI r31.elems.length)) && (eqN (0 + r31.elems.length) r31.elems.length)) (cond (eqI r30.i (ad .i64 r30.i 1)) (some (D.tup [(da [(dl r31.nn ((r31.elems.drop 0).take r31.elems.length)), (p0.at 1), (p0.at 2)]), (di 0)])) (cond (true && (leI 0 r30.i) && (leN (0 + (r30.i).toNat) r31.elems.length)) (cond ((leI 0 (ad .i64 r30.i 1)) && (leI (ad .i64 r30.i 1) (nI r31.elems.length)) && (leN (0 + r31.elems.length) r31.elems.length)) (cond (leN ((0 + ((r30.i).toNat - 0)) + ((r31.elems.drop (0 + (ad .i64 r30.i 1).toNat)).take (r31.elems.length - (ad .i64 r30.i 1).toNat)).length) r31.elems.length) (cond ((leI 0 (nI (((r30.i).toNat - 0) + ((r31.elems.drop (0 + (ad .i64 r30.i 1).toNat)).take (r31.elems.length - (ad .i64 r30.i 1).toNat)).length))) && (leI (nI (((r30.i).toNat - 0) + ((r31.elems.drop (0 + (ad .i64 r30.i 1).toNat)).take (r31.elems.length - (ad .i64 r30.i 1).toNat)).length)) (nI r31.elems.length)) && (leN (0 + r31.elems.length) (ap (ap (r31.elems.take (0 + ((r30.i).toNat - 0))) ((r31.elems.drop (0 + (ad .i64 r30.i 1).toNat)).take (r31.elems.length - (ad .i64 r30.i 1).toNat))) (r31.elems.drop ((0 + ((r30.i).toNat - 0)) + ((r31.elems.drop (0 + (ad .i64 r30.i 1).toNat)).take (r31.elems.length - (ad .i64 r30.i 1).toNat)).length))).length)) (some (D.tup [(da [(dl r31.nn (((ap (ap ((ap (ap (r31.elems.take (0 + ((r30.i).toNat - 0))) ((r31.elems.drop (0 + (ad .i64 r30.i 1).toNat)).take (r31.elems.length - (ad .i64 r30.i 1).toNat))) (r31.elems.drop ((0 + ((r30.i).toNat - 0)) + ((r31.elems.drop (0 + (ad .i64 r30.i 1).toNat)).take (r31.elems.length - (ad .i64 r30.i 1).toNat)).length))).take (0 + (((r30.i).toNat - 0) + ((r31.elems.drop (0 + (ad .i64 r30.i 1).toNat)).take (r31.elems.length - (ad .i64 r30.i 1).toNat)).length))) (rp (r31.elems.length - (((r30.i).toNat - 0) + ((r31.elems.drop (0 + (ad .i64 r30.i 1).toNat)).take (r31.elems.length - (ad .i64 r30.i 1).toNat)).length)) (da [(da [(di 0), (dS (bs [])), (dS (bs [])), (db false), (di 0), (dl false [])]), (di 0), (da (rp 32 (D.int .u8 0)))]))) ((ap (ap (r31.elems.take (0 + ((r30.i).toNat - 0))) ((r31.elems.drop (0 + (ad .i64 r30.i 1).toNat)).take (r31.elems.length - (ad .i64 r30.i 1).toNat))) (r31.elems.drop ((0 + ((r30.i).toNat - 0)) + ((r31.elems.drop (0 + (ad .i64 r30.i 1).toNat)).take (r31.elems.length - (ad .i64 r30.i 1).toNat)).length))).drop ((0 + (((r30.i).toNat - 0) + ((r31.elems.drop (0 + (ad .i64 r30.i 1).toNat)).take (r31.elems.length - (ad .i64 r30.i 1).toNat)).length)) + (r31.elems.length - (((r30.i).toNat - 0) + ((r31.elems.drop (0 + (ad .i64 r30.i 1).toNat)).take (r31.elems.length - (ad .i64 r30.i 1).toNat)).length))))).drop 0).take (((r30.i).toNat - 0) + ((r31.elems.drop (0 + (ad .i64 r30.i 1).toNat)).take (r31.elems.length - (ad .i64 r30.i 1).toNat)).length))), (p0.at 1), (p0.at 2)]), (di 0)])) none) none) none) none)) none) (some (D.tup [(da [(dl r31.nn ((r31.elems.drop 0).take r31.elems.length)), (p0.at 1), (p0.at 2)]), (di 0)]))))) none)))))))))))))
theorem run (M : Nat) (p0 : D) (p1 : D) : callS (e M) (tblOf (t16_1 M)) 6 16 [.d (.struct [25, 3, 3]) p0, .d (.struct [34, 3, 9, 3, 3, 36]) p1] [] (fun v H => finish ty [27, 28] v H) = s M p0 p1 := by kernel_rfl
noncomputable abbrev t (M : Nat) : List Ent := t16_1 M
theorem t_ok (M : Nat) : AllOk (e M) (tblOf (t M)) := t16_1_ok M
def c : Con := { run := fun ds => match ds with | [p0, p1] => s FUEL p0 p1 | _ => none, fresh := false, plain := false }
theorem fun_at : Tryd.prog.funcs[16]? = some Tryd.f16 := by kernel_rfl
theorem params : Tryd.f16.params.toList.map ty = [(.struct [25, 3, 3]), (.struct [34, 3, 9, 3, 3, 36])] := by kernel_rfl
theorem results : Tryd.f16.resultTypes.toList = [27, 28] := by kernel_rfl
theorem ok : ConOk (16, c) := by
  intro fn hfn
  obtain rfl : Tryd.f16 = fn := Option.some.inj (fun_at.symm.trans hfn)
  refine contract_flat (n := 20) hgl (fun h => by simp at h) (fun ds r hh0 hr => ?_)
  rw [params] at hh0
  obtain ⟨p0, ds0, rfl, h0, hh1⟩ := hass_cons hh0
  obtain ⟨p1, ds1, rfl, h1, hh2⟩ := hass_cons hh1
  obtain rfl := hass_nil hh2
  refine ⟨e FUEL, DEPTH, tblOf (t FUEL), envOk (allCons F28.ok (allCons F29.ok (allCons F34.ok (allCons F44.ok (allCons F58.ok (allCons F61.ok (allCons F63.ok (allCons F65.ok allNil)))))))) allNil, rfl, t_ok FUEL, ?_⟩
  rw [params, results]
  exact (run FUEL p0 p1).trans hr
end F16
namespace F14
def cons : List (Nat × Con) := [(16, F16.c)]
def exts : List (Nat × Ext) := []
def h : List (Nat × Nat × Hint) := [(14, 3, { live := [2, 5, 10, 11, 12], rows := [], own := false, inpl := false })]
noncomputable def e (M : Nat) : Env := env cons exts h M
noncomputable def t14_0 (_ : Nat) : List Ent := []
theorem t14_0_ok (M : Nat) : AllOk (e M) (tblOf (t14_0 M)) := AllOk.nil
structure S3 where
  d13 : D
  i14 : Int
  i15 : Int
  b16 : Bool
  l17 : (List D)
  i18 : Int
  i19 : Int
  d20 : D
inductive X3 where
  | e0 (d13 : D) (i14 : Int) (i15 : Int) (d20 : D) (r21 : D)
  | e1 (d13 : D) (i14 : Int) (i15 : Int) (b16 : Bool) (l17 : (List D)) (i18 : Int) (i19 : Int) (d20 : D)
def st3 (M : Nat) : S3 → (S3 → Option D) → (X3 → Option D) → Option D
  | ⟨d13, i14, i15, b16, l17, i18, i19, d20⟩, rec, K => (cond (ltI i15 i14) (cond (inb i15 d13.elems.length) (bd (F16.s FUEL d20 (ix d13.elems i15.toNat)) fun r21 => (cond (neI (r21.at 1).i 0) (K (.e0 d13 i14 i15 d20 r21)) (rec ⟨d13, i14, (ad .i64 i15 1), b16, l17, i18, i19, (r21.at 0)⟩))) none) (K (.e1 d13 i14 i15 b16 l17 i18 i19 d20)))
def lv3 : S3 → List Leaf
  | ⟨d13, i14, i15, b16, l17, i18, i19, d20⟩ => [.d d13, .i i14, .i i15, .b b16, .l l17, .i i18, .i i19, .d d20]
def of3 : List Leaf → Option S3
  | [.d d13, .i i14, .i i15, .b b16, .l l17, .i i18, .i i19, .d d20] => some ⟨d13, i14, i15, b16, l17, i18, i19, d20⟩
  | _ => none
def ex3 (k : Kont) : X3 → Option D
  | .e0 d13 i14 i15 d20 r21 => k .ret (us 2 ((.ptr 0 [] (.struct [25, 3, 3])) :: ((.d (.int .i64) (r21.at 1)) :: ((.d (.int .i64) (di i15)) :: ((.ptr 1 [] (.struct [25, 3, 3])) :: ((.d (.int .i64) (di i15)) :: ((.ptr 2 [] (.struct [34, 3, 9, 3, 3, 36])) :: ((.ptr 3 [] (.struct [25, 3, 3])) :: ((.d (.int .i64) (r21.at 1)) :: ((.d (.slice 38) d13) :: ((.d (.int .i64) (di i14)) :: ((.d (.int .i64) (di i15)) :: ((.d .bool (db (ltI i15 i14))) :: ((.d (.int .i64) (di i15)) :: ((.cptr (.struct [34, 3, 9, 3, 3, 36]) (ix d13.elems i15.toNat)) :: ((.d (.struct [34, 3, 9, 3, 3, 36]) (ix d13.elems i15.toNat)) :: ((.dtup [(.struct [25, 3, 3]), (.int .i64)] r21) :: ((.d (.struct [25, 3, 3]) d20) :: ((.d (.struct [34, 3, 9, 3, 3, 36]) (ix d13.elems i15.toNat)) :: ((.dtup [(.struct [25, 3, 3]), (.int .i64)] r21) :: ((.d (.struct [25, 3, 3]) (r21.at 0)) :: ((.d (.int .i64) (r21.at 1)) :: ((.d (.int .i64) (r21.at 1)) :: ((.d .bool (db (neI (r21.at 1).i 0))) :: ((.d (.struct [25, 3, 3]) d20) :: ((.d (.int .i64) (r21.at 1)) :: ((.d (.int .i64) (di i15)) :: (us 3 [])))))))))))))))))))))))))))) [(.var (.struct [25, 3, 3]) (.d (.struct [25, 3, 3]) d20)), (.var (.struct [25, 3, 3]) (.d (.struct [25, 3, 3]) d20)), (.var (.struct [34, 3, 9, 3, 3, 36]) (.d (.struct [34, 3, 9, 3, 3, 36]) (ix d13.elems i15.toNat))), (.var (.struct [25, 3, 3]) (.d (.struct [25, 3, 3]) (r21.at 0)))]
  | .e1 d13 i14 i15 b16 l17 i18 i19 d20 => k (.exit 0) (us 2 ((.ptr 0 [] (.struct [25, 3, 3])) :: (us 2 ((.ptr 1 [] (.struct [25, 3, 3])) :: (us 4 ((.d (.slice 38) d13) :: ((.d (.int .i64) (di i14)) :: ((.d (.int .i64) (di i15)) :: ((.d .bool (db (ltI i15 i14))) :: (us 17 [])))))))))) [(.var (.struct [25, 3, 3]) (.d (.struct [25, 3, 3]) (da [(dl b16 l17), (di i18), (di i19)]))), (.var (.struct [25, 3, 3]) (.d (.struct [25, 3, 3]) d20))]
def ps3 : List PV := (up 2 ((.ptr 0 [] (.struct [25, 3, 3])) :: (up 2 ((.ptr 1 [] (.struct [25, 3, 3])) :: (up 4 ((.d (.slice 38) .x) :: ((.d (.int .i64) (.int .i64)) :: ((.d (.int .i64) (.int .i64)) :: (up 18 [])))))))))
def qs3 : List PO := [(.var (.struct [25, 3, 3]) (.d (.struct [25, 3, 3]) (.agg [.slice, (.int .i64), (.int .i64)]))), (.var (.struct [25, 3, 3]) (.d (.struct [25, 3, 3]) .x))]
noncomputable def sum3 (M : Nat) : Sum := sumS [2, 5, 10, 11, 12] ps3 qs3 [] of3 (st3 M) ex3 M
theorem sok3 (M : Nat) : SumOk (e M) (call (e M) 5) 14 0 (loopAt (e M) 14 3) (sum3 M) :=
  sumOk_st (T := tblOf (t14_0 M)) (n0 := 2) (lv := lv3) (t14_0_ok M) (by kernel_rfl) rfl (by intro ls s h; unfold of3 at h; split at h <;> simp at h; subst h; rfl) (by intro s; kernel_rfl) (by intro s; kernel_rfl) (by intro s nx k; kernel_rfl)
noncomputable def t14_1 (M : Nat) : List Ent := ⟨14, 5, 0, 3, sum3 M⟩ :: t14_0 M
theorem t14_1_ok (M : Nat) : AllOk (e M) (tblOf (t14_1 M)) := (t14_0_ok M).add ⟨14, 5, 0, 3, sum3 M⟩ (by kernel_rfl) (sok3 M)
def s (M : Nat) (p0 : D) : Option D :=
  (goS (st3 M) M ⟨p0, (nI p0.elems.length), 0, false, [], 0, 0, (da [(dl false []), (di 0), (di 0)])⟩ fun x => match x with | .e0 d13 i14 i15 d20 r21 => (some (D.tup [d20, (r21.at 1), (di i15)])) | .e1 d13 i14 i15 b16 l17 i18 i19 d20 => (some (D.tup [d20, (di 0), (di 0)])))
theorem run (M : Nat) (p0 : D) : callS (e M) (tblOf (t14_1 M)) 6 14 [.d (.slice 38) p0] [] (fun v H => finish ty [27, 28, 3] v H) = s M p0 := by kernel_rfl
noncomputable abbrev t (M : Nat) : List Ent := t14_1 M
theorem t_ok (M : Nat) : AllOk (e M) (tblOf (t M)) := t14_1_ok M
def c : Con := { run := fun ds => match ds with | [p0] => s FUEL p0 | _ => none, fresh := false, plain := false }
theorem fun_at : Tryd.prog.funcs[14]? = some Tryd.f14 := by kernel_rfl
theorem params : Tryd.f14.params.toList.map ty = [(.slice 38)] := by kernel_rfl
theorem results : Tryd.f14.resultTypes.toList = [27, 28, 3] := by kernel_rfl
theorem ok : ConOk (14, c) := by
  intro fn hfn
  obtain rfl : Tryd.f14 = fn := Option.some.inj (fun_at.symm.trans hfn)
  refine contract_flat (n := 20) hgl (fun h => by simp at h) (fun ds r hh0 hr => ?_)
  rw [params] at hh0
  obtain ⟨p0, ds0, rfl, h0, hh1⟩ := hass_cons hh0
  obtain rfl := hass_nil hh1
  refine ⟨e FUEL, DEPTH, tblOf (t FUEL), envOk (allCons F16.ok allNil) allNil, rfl, t_ok FUEL, ?_⟩
  rw [params, results]
  exact (run FUEL p0).trans hr
end F14
namespace F53
def cons : List (Nat × Con) := []
def exts : List (Nat × Ext) := []
def h : List (Nat × Nat × Hint) := [(53, 4, { live := [0, 1, 12, 13], rows := [], own := false, inpl := false })]
noncomputable def e (M : Nat) : Env := env cons exts h M
noncomputable def t53_0 (_ : Nat) : List Ent := []
theorem t53_0_ok (M : Nat) : AllOk (e M) (tblOf (t53_0 M)) := AllOk.nil
structure S4 where
  d1 : D
  d2 : D
  i3 : Int
  i4 : Int
inductive X4 where
  | e0 (d1 : D) (d2 : D) (i3 : Int) (i4 : Int)
  | e1 (d1 : D) (d2 : D) (i3 : Int) (i4 : Int)
def st4 (M : Nat) : S4 → (S4 → Option D) → (X4 → Option D) → Option D
  | ⟨d1, d2, i3, i4⟩, rec, K => (cond (ltI i4 i3) (cond (inb i4 d1.elems.length) (cond (inb i4 d2.elems.length) (cond (!(eqS (ix d1.elems i4.toNat).s (ix d2.elems i4.toNat).s)) (K (.e0 d1 d2 i3 i4)) (rec ⟨d1, d2, i3, (ad .i64 i4 1)⟩)) none) none) (K (.e1 d1 d2 i3 i4)))
def lv4 : S4 → List Leaf
  | ⟨d1, d2, i3, i4⟩ => [.d d1, .d d2, .i i3, .i i4]
def of4 : List Leaf → Option S4
  | [.d d1, .d d2, .i i3, .i i4] => some ⟨d1, d2, i3, i4⟩
  | _ => none
def ex4 (k : Kont) : X4 → Option D
  | .e0 d1 d2 i3 i4 => k .ret ((.d (.slice 9) d1) :: ((.d (.slice 9) d2) :: (us 2 ((.d .bool (db false)) :: ((.d (.int .i64) (di i4)) :: (us 6 ((.d (.int .i64) (di i3)) :: ((.d (.int .i64) (di i4)) :: ((.d .bool (db (ltI i4 i3))) :: ((.d (.int .i64) (di i4)) :: ((.d (.slice 9) d1) :: ((.d (.int .i64) (di i4)) :: ((.cptr .str (ix d1.elems i4.toNat)) :: ((.d .str (ix d1.elems i4.toNat)) :: ((.d (.slice 9) d2) :: ((.d (.int .i64) (di i4)) :: ((.cptr .str (ix d2.elems i4.toNat)) :: ((.d .str (ix d2.elems i4.toNat)) :: ((.d .bool (db (!(eqS (ix d1.elems i4.toNat).s (ix d2.elems i4.toNat).s)))) :: (us 1 [])))))))))))))))))))) []
  | .e1 d1 d2 i3 i4 => k (.exit 0) ((.d (.slice 9) d1) :: ((.d (.slice 9) d2) :: (us 10 ((.d (.int .i64) (di i3)) :: ((.d (.int .i64) (di i4)) :: ((.d .bool (db (ltI i4 i3))) :: (us 11 []))))))) []
def ps4 : List PV := ((.d (.slice 9) .x) :: ((.d (.slice 9) .x) :: (up 10 ((.d (.int .i64) (.int .i64)) :: ((.d (.int .i64) (.int .i64)) :: (up 12 []))))))
def qs4 : List PO := []
noncomputable def sum4 (M : Nat) : Sum := sumS [0, 1, 12, 13] ps4 qs4 [] of4 (st4 M) ex4 M
theorem sok4 (M : Nat) : SumOk (e M) (call (e M) 5) 53 0 (loopAt (e M) 53 4) (sum4 M) :=
  sumOk_st (T := tblOf (t53_0 M)) (n0 := 0) (lv := lv4) (t53_0_ok M) (by kernel_rfl) rfl (by intro ls s h; unfold of4 at h; split at h <;> simp at h; subst h; rfl) (by intro s; kernel_rfl) (by intro s; kernel_rfl) (by intro s nx k; kernel_rfl)
noncomputable def t53_1 (M : Nat) : List Ent := ⟨53, 5, 0, 4, sum4 M⟩ :: t53_0 M
theorem t53_1_ok (M : Nat) : AllOk (e M) (tblOf (t53_1 M)) := (t53_0_ok M).add ⟨53, 5, 0, 4, sum4 M⟩ (by kernel_rfl) (sok4 M)
def s (M : Nat) (p0 : D) (p1 : D) : Option D :=
  (cond (neI (nI p0.elems.length) (nI p1.elems.length)) (some (db false)) (goS (st4 M) M ⟨p0, p1, (nI p0.elems.length), 0⟩ fun x => match x with | .e0 d1 d2 i3 i4 => (some (db false)) | .e1 d1 d2 i3 i4 => (some (db true))))
theorem run (M : Nat) (p0 : D) (p1 : D) : callS (e M) (tblOf (t53_1 M)) 6 53 [.d (.slice 9) p0, .d (.slice 9) p1] [] (fun v H => finish ty [4] v H) = s M p0 p1 := by kernel_rfl
noncomputable abbrev t (M : Nat) : List Ent := t53_1 M
theorem t_ok (M : Nat) : AllOk (e M) (tblOf (t M)) := t53_1_ok M
def c : Con := { run := fun ds => match ds with | [p0, p1] => s FUEL p0 p1 | _ => none, fresh := false, plain := true }
theorem fun_at : Tryd.prog.funcs[53]? = some Tryd.f53 := by kernel_rfl
theorem params : Tryd.f53.params.toList.map ty = [(.slice 9), (.slice 9)] := by kernel_rfl
theorem results : Tryd.f53.resultTypes.toList = [4] := by kernel_rfl
theorem flat : Tryd.f53.resultTypes.toList.all (fun t => K.flat ty 20 (ty t)) = true := by kernel_rfl
theorem ok : ConOk (53, c) := by
  intro fn hfn
  obtain rfl : Tryd.f53 = fn := Option.some.inj (fun_at.symm.trans hfn)
  refine contract_flat (n := 20) hgl (fun _ => flat) (fun ds r hh0 hr => ?_)
  rw [params] at hh0
  obtain ⟨p0, ds0, rfl, h0, hh1⟩ := hass_cons hh0
  obtain ⟨p1, ds1, rfl, h1, hh2⟩ := hass_cons hh1
  obtain rfl := hass_nil hh2
  refine ⟨e FUEL, DEPTH, tblOf (t FUEL), envOk allNil allNil, rfl, t_ok FUEL, ?_⟩
  rw [params, results]
  exact (run FUEL p0 p1).trans hr
end F53
namespace F32
def cons : List (Nat × Con) := [(53, F53.c)]
def exts : List (Nat × Ext) := []
def h : List (Nat × Nat × Hint) := []
noncomputable def e (M : Nat) : Env := env cons exts h M
noncomputable def t32_0 (_ : Nat) : List Ent := []
theorem t32_0_ok (M : Nat) : AllOk (e M) (tblOf (t32_0 M)) := AllOk.nil
def s (M : Nat) (p0 : D) (p1 : D) : Option D :=
  (cond (eqI (p0.at 0).i (p1.at 0).i) (cond (eqS (p0.at 1).s (p1.at 1).s) (cond (eqS (p0.at 2).s (p1.at 2).s) (bd (match D.eqv ty eqDepth (p0.at 3) (p1.at 3) .bool with | some z => some (.bool z) | none => none) fun r1 => (cond r1.b (cond (eqI (p0.at 4).i (p1.at 4).i) (bd (F53.s FUEL (p0.at 5) (p1.at 5)) fun r2 => (some r2)) (some (db false))) (some (db false)))) (some (db false))) (some (db false))) (some (db false)))
theorem run (M : Nat) (p0 : D) (p1 : D) : callS (e M) (tblOf (t32_0 M)) 6 32 [.d (.struct [3, 9, 9, 4, 3, 40]) p0, .d (.struct [3, 9, 9, 4, 3, 40]) p1] [] (fun v H => finish ty [4] v H) = s M p0 p1 := by kernel_rfl
noncomputable abbrev t (M : Nat) : List Ent := t32_0 M
theorem t_ok (M : Nat) : AllOk (e M) (tblOf (t M)) := t32_0_ok M
def c : Con := { run := fun ds => match ds with | [p0, p1] => s FUEL p0 p1 | _ => none, fresh := false, plain := true }
theorem fun_at : Tryd.prog.funcs[32]? = some Tryd.f32 := by kernel_rfl
theorem params : Tryd.f32.params.toList.map ty = [(.struct [3, 9, 9, 4, 3, 40]), (.struct [3, 9, 9, 4, 3, 40])] := by kernel_rfl
theorem results : Tryd.f32.resultTypes.toList = [4] := by kernel_rfl
theorem flat : Tryd.f32.resultTypes.toList.all (fun t => K.flat ty 20 (ty t)) = true := by kernel_rfl
theorem ok : ConOk (32, c) := by
  intro fn hfn
  obtain rfl : Tryd.f32 = fn := Option.some.inj (fun_at.symm.trans hfn)
  refine contract_flat (n := 20) hgl (fun _ => flat) (fun ds r hh0 hr => ?_)
  rw [params] at hh0
  obtain ⟨p0, ds0, rfl, h0, hh1⟩ := hass_cons hh0
  obtain ⟨p1, ds1, rfl, h1, hh2⟩ := hass_cons hh1
  obtain rfl := hass_nil hh2
  refine ⟨e FUEL, DEPTH, tblOf (t FUEL), envOk (allCons F53.ok allNil) allNil, rfl, t_ok FUEL, ?_⟩
  rw [params, results]
  exact (run FUEL p0 p1).trans hr
end F32
namespace F31
def cons : List (Nat × Con) := [(32, F32.c)]
def exts : List (Nat × Ext) := []
def h : List (Nat × Nat × Hint) := []
noncomputable def e (M : Nat) : Env := env cons exts h M
noncomputable def t31_0 (_ : Nat) : List Ent := []
theorem t31_0_ok (M : Nat) : AllOk (e M) (tblOf (t31_0 M)) := AllOk.nil
def s (M : Nat) (p0 : D) (p1 : D) : Option D :=
  (cond (eqI (p0.at 1).i (p1.at 1).i) (bd (match D.eqv ty eqDepth (p0.at 2) (p1.at 2) (.array 32 5) with | some z => some (.bool z) | none => none) fun r1 => (cond r1.b (bd (F32.s FUEL (p0.at 0) (p1.at 0)) fun r2 => (some r2)) (some (db false)))) (some (db false)))
theorem run (M : Nat) (p0 : D) (p1 : D) : callS (e M) (tblOf (t31_0 M)) 6 31 [.d (.struct [42, 3, 36]) p0, .d (.struct [42, 3, 36]) p1] [] (fun v H => finish ty [4] v H) = s M p0 p1 := by kernel_rfl
noncomputable abbrev t (M : Nat) : List Ent := t31_0 M
theorem t_ok (M : Nat) : AllOk (e M) (tblOf (t M)) := t31_0_ok M
def c : Con := { run := fun ds => match ds with | [p0, p1] => s FUEL p0 p1 | _ => none, fresh := false, plain := true }
theorem fun_at : Tryd.prog.funcs[31]? = some Tryd.f31 := by kernel_rfl
theorem params : Tryd.f31.params.toList.map ty = [(.struct [42, 3, 36]), (.struct [42, 3, 36])] := by kernel_rfl
theorem results : Tryd.f31.resultTypes.toList = [4] := by kernel_rfl
theorem flat : Tryd.f31.resultTypes.toList.all (fun t => K.flat ty 20 (ty t)) = true := by kernel_rfl
theorem ok : ConOk (31, c) := by
  intro fn hfn
  obtain rfl : Tryd.f31 = fn := Option.some.inj (fun_at.symm.trans hfn)
  refine contract_flat (n := 20) hgl (fun _ => flat) (fun ds r hh0 hr => ?_)
  rw [params] at hh0
  obtain ⟨p0, ds0, rfl, h0, hh1⟩ := hass_cons hh0
  obtain ⟨p1, ds1, rfl, h1, hh2⟩ := hass_cons hh1
  obtain rfl := hass_nil hh2
  refine ⟨e FUEL, DEPTH, tblOf (t FUEL), envOk (allCons F32.ok allNil) allNil, rfl, t_ok FUEL, ?_⟩
  rw [params, results]
  exact (run FUEL p0 p1).trans hr
end F31
namespace F15
def cons : List (Nat × Con) := [(31, F31.c)]
def exts : List (Nat × Ext) := []
def h : List (Nat × Nat × Hint) := [(30, 4, { live := [1, 2, 15, 16, 17], rows := [], own := false, inpl := false })]
noncomputable def e (M : Nat) : Env := env cons exts h M
noncomputable def t15_0 (_ : Nat) : List Ent := []
theorem t15_0_ok (M : Nat) : AllOk (e M) (tblOf (t15_0 M)) := AllOk.nil
structure S30_4 where
  d1 : D
  d2 : D
  i3 : Int
  i4 : Int
  d5 : D
  d6 : D
inductive X30_4 where
  | e0 (d1 : D) (d2 : D) (i3 : Int) (i4 : Int) (d5 : D) (d6 : D) (r7 : D)
  | e1 (d1 : D) (d2 : D) (i3 : Int) (i4 : Int) (d5 : D) (d6 : D)
def st30_4 (M : Nat) : S30_4 → (S30_4 → Option D) → (X30_4 → Option D) → Option D
  | ⟨d1, d2, i3, i4, d5, d6⟩, rec, K => (cond (ltI i4 i3) (cond (inb i4 d2.elems.length) (cond (inb i4 d1.elems.length) (bd (F31.s FUEL (ix d2.elems i4.toNat) (ix d1.elems i4.toNat)) fun r7 => (cond (!r7.b) (K (.e0 d1 d2 i3 i4 d5 d6 r7)) (rec ⟨d1, d2, i3, (ad .i64 i4 1), d5, d6⟩))) none) none) (K (.e1 d1 d2 i3 i4 d5 d6)))
def lv30_4 : S30_4 → List Leaf
  | ⟨d1, d2, i3, i4, d5, d6⟩ => [.d d1, .d d2, .i i3, .i i4, .d d5, .d d6]
def of30_4 : List Leaf → Option S30_4
  | [.d d1, .d d2, .i i3, .i i4, .d d5, .d d6] => some ⟨d1, d2, i3, i4, d5, d6⟩
  | _ => none
def ex30_4 (k : Kont) : X30_4 → Option D
  | .e0 d1 d2 i3 i4 d5 d6 r7 => k .ret (us 1 ((.d (.slice 44) d1) :: ((.d .func (D.fn 31)) :: (us 3 ((.d .bool (db false)) :: ((.d (.int .i64) (di i4)) :: ((.ptr 2 [] (.struct [42, 3, 36])) :: ((.ptr 3 [] (.struct [42, 3, 36])) :: (us 5 ((.d (.slice 44) d2) :: ((.d (.int .i64) (di i3)) :: ((.d (.int .i64) (di i4)) :: ((.d .bool (db (ltI i4 i3))) :: ((.d (.int .i64) (di i4)) :: ((.cptr (.struct [42, 3, 36]) (ix d2.elems i4.toNat)) :: ((.d (.struct [42, 3, 36]) (ix d2.elems i4.toNat)) :: ((.d (.slice 44) d1) :: ((.d (.int .i64) (di i4)) :: ((.cptr (.struct [42, 3, 36]) (ix d1.elems i4.toNat)) :: ((.d (.struct [42, 3, 36]) (ix d1.elems i4.toNat)) :: ((.d .func (D.fn 31)) :: ((.d (.struct [42, 3, 36]) (ix d2.elems i4.toNat)) :: ((.d (.struct [42, 3, 36]) (ix d1.elems i4.toNat)) :: ((.d .bool r7) :: ((.d .bool (db (!r7.b))) :: (us 1 [])))))))))))))))))))))))))) [(.var (.struct [25, 3, 3]) (.d (.struct [25, 3, 3]) d5)), (.var (.struct [25, 3, 3]) (.d (.struct [25, 3, 3]) d6)), (.var (.struct [42, 3, 36]) (.d (.struct [42, 3, 36]) (ix d2.elems i4.toNat))), (.var (.struct [42, 3, 36]) (.d (.struct [42, 3, 36]) (ix d1.elems i4.toNat)))]
  | .e1 d1 d2 i3 i4 d5 d6 => k (.exit 0) (us 1 ((.d (.slice 44) d1) :: ((.d .func (D.fn 31)) :: (us 12 ((.d (.slice 44) d2) :: ((.d (.int .i64) (di i3)) :: ((.d (.int .i64) (di i4)) :: ((.d .bool (db (ltI i4 i3))) :: (us 13 []))))))))) [(.var (.struct [25, 3, 3]) (.d (.struct [25, 3, 3]) d5)), (.var (.struct [25, 3, 3]) (.d (.struct [25, 3, 3]) d6))]
def ps30_4 : List PV := (up 1 ((.d (.slice 44) .x) :: ((.d .func (.fn 31)) :: (up 12 ((.d (.slice 44) .x) :: ((.d (.int .i64) (.int .i64)) :: ((.d (.int .i64) (.int .i64)) :: (up 14 []))))))))
def qs30_4 : List PO := [(.var (.struct [25, 3, 3]) (.d (.struct [25, 3, 3]) .x)), (.var (.struct [25, 3, 3]) (.d (.struct [25, 3, 3]) .x))]
noncomputable def sum30_4 (M : Nat) : Sum := sumS [1, 2, 15, 16, 17] ps30_4 qs30_4 [] of30_4 (st30_4 M) ex30_4 M
theorem sok30_4 (M : Nat) : SumOk (e M) (call (e M) 4) 30 2 (loopAt (e M) 30 4) (sum30_4 M) :=
  sumOk_st (T := tblOf (t15_0 M)) (n0 := 2) (lv := lv30_4) (t15_0_ok M) (by kernel_rfl) rfl (by intro ls s h; unfold of30_4 at h; split at h <;> simp at h; subst h; rfl) (by intro s; kernel_rfl) (by intro s; kernel_rfl) (by intro s nx k; kernel_rfl)
noncomputable def t15_1 (M : Nat) : List Ent := ⟨30, 4, 2, 4, sum30_4 M⟩ :: t15_0 M
theorem t15_1_ok (M : Nat) : AllOk (e M) (tblOf (t15_1 M)) := (t15_0_ok M).add ⟨30, 4, 2, 4, sum30_4 M⟩ (by kernel_rfl) (sok30_4 M)
def s (M : Nat) (p0 : D) (p1 : D) : Option D :=
  (cond (eqI (p0.at 1).i (p1.at 1).i) (cond (eqI (p0.at 2).i (p1.at 2).i) (cond (neI (nI (p0.at 0).elems.length) (nI (p1.at 0).elems.length)) (some (db false)) (goS (st30_4 M) M ⟨(p1.at 0), (p0.at 0), (nI (p0.at 0).elems.length), 0, p0, p1⟩ fun x => match x with | .e0 d1 d2 i3 i4 d5 d6 r7 => (some (db false)) | .e1 d1 d2 i3 i4 d5 d6 => (some (db true)))) (some (db false))) (some (db false)))
theorem run (M : Nat) (p0 : D) (p1 : D) : callS (e M) (tblOf (t15_1 M)) 6 15 [.d (.struct [25, 3, 3]) p0, .d (.struct [25, 3, 3]) p1] [] (fun v H => finish ty [4] v H) = s M p0 p1 := by kernel_rfl
noncomputable abbrev t (M : Nat) : List Ent := t15_1 M
theorem t_ok (M : Nat) : AllOk (e M) (tblOf (t M)) := t15_1_ok M
def c : Con := { run := fun ds => match ds with | [p0, p1] => s FUEL p0 p1 | _ => none, fresh := false, plain := true }
theorem fun_at : Tryd.prog.funcs[15]? = some Tryd.f15 := by kernel_rfl
theorem params : Tryd.f15.params.toList.map ty = [(.struct [25, 3, 3]), (.struct [25, 3, 3])] := by kernel_rfl
theorem results : Tryd.f15.resultTypes.toList = [4] := by kernel_rfl
theorem flat : Tryd.f15.resultTypes.toList.all (fun t => K.flat ty 20 (ty t)) = true := by kernel_rfl
theorem ok : ConOk (15, c) := by
  intro fn hfn
  obtain rfl : Tryd.f15 = fn := Option.some.inj (fun_at.symm.trans hfn)
  refine contract_flat (n := 20) hgl (fun _ => flat) (fun ds r hh0 hr => ?_)
  rw [params] at hh0
  obtain ⟨p0, ds0, rfl, h0, hh1⟩ := hass_cons hh0
  obtain ⟨p1, ds1, rfl, h1, hh2⟩ := hass_cons hh1
  obtain rfl := hass_nil hh2
  refine ⟨e FUEL, DEPTH, tblOf (t FUEL), envOk (allCons F31.ok allNil) allNil, rfl, t_ok FUEL, ?_⟩
  rw [params, results]
  exact (run FUEL p0 p1).trans hr
end F15
namespace F12
def cons : List (Nat × Con) := [(14, F14.c), (15, F15.c), (16, F16.c), (29, F29.c)]
def exts : List (Nat × Ext) := []
def h : List (Nat × Nat × Hint) := []
noncomputable def e (M : Nat) : Env := env cons exts h M
noncomputable def t12_0 (_ : Nat) : List Ent := []
theorem t12_0_ok (M : Nat) : AllOk (e M) (tblOf (t12_0 M)) := AllOk.nil
def s (M : Nat)  : Option D :=
  (bd (F14.s FUEL (dl true [(da [(di 0), (di 1), (dS (bs [97])), (di 0), (di 0), (da (rp 32 (D.int .u8 0)))]), (da [(di 1), (di 1), (dS (bs [])), (di 0), (di 3), (da (rp 32 (D.int .u8 0)))])])) fun r1 => (cond (neI (r1.at 1).i 0) (some (db false)) (cond (neI (nI ((r1.at 0).at 0).elems.length) 1) (some (db false)) (bd (F14.s FUEL (dl true [(da [(di 0), (di 1), (dS (bs [97])), (di 0), (di 0), (da (rp 32 (D.int .u8 0)))]), (da [(di 0), (di 1), (dS (bs [97])), (di 0), (di 0), (da (rp 32 (D.int .u8 0)))])])) fun r2 => (bd (F16.s FUEL (r1.at 0) (da [(di 7), (di 0), (dS (bs [])), (di 4), (di 0), (da (rp 32 (D.int .u8 0)))])) fun r3 => (cond (inb 0 ((r1.at 0).at 0).elems.length) (cond (eqI ((ix ((r1.at 0).at 0).elems 0).at 1).i 3) (cond (eqI ((r1.at 0).at 1).i 1) (cond (eqI (r2.at 1).i 13) (cond (eqI (r2.at 2).i 1) (cond (eqI (r3.at 1).i 0) (cond (eqI ((r3.at 0).at 2).i 4) (bd (F29.s FUEL (r1.at 0) 1) fun r4 => (cond (eqI r4.i 0) (bd (F29.s FUEL (r1.at 0) 2) fun r5 => (cond (eqI r5.i (-1)) (bd (F15.s FUEL (r1.at 0) (r1.at 0)) fun r6 => (cond r6.b (bd (F15.s FUEL (r1.at 0) (r3.at 0)) fun r7 => (some (db (!r7.b)))) (some (db false)))) (some (db false)))) (some (db false)))) (some (db false))) (some (db false))) (some (db false))) (some (db false))) (some (db false))) (some (db false))) none))))))
theorem run (M : Nat)  : callS (e M) (tblOf (t12_0 M)) 6 12 [] [] (fun v H => finish ty [4] v H) = s M  := by kernel_rfl
noncomputable abbrev t (M : Nat) : List Ent := t12_0 M
theorem t_ok (M : Nat) : AllOk (e M) (tblOf (t M)) := t12_0_ok M
def c : Con := { run := fun ds => match ds with | [] => s FUEL  | _ => none, fresh := false, plain := true }
theorem fun_at : Tryd.prog.funcs[12]? = some Tryd.f12 := by kernel_rfl
theorem params : Tryd.f12.params.toList.map ty = [] := by kernel_rfl
theorem results : Tryd.f12.resultTypes.toList = [4] := by kernel_rfl
theorem flat : Tryd.f12.resultTypes.toList.all (fun t => K.flat ty 20 (ty t)) = true := by kernel_rfl
theorem ok : ConOk (12, c) := by
  intro fn hfn
  obtain rfl : Tryd.f12 = fn := Option.some.inj (fun_at.symm.trans hfn)
  refine contract_flat (n := 20) hgl (fun _ => flat) (fun ds r hh0 hr => ?_)
  rw [params] at hh0
  obtain rfl := hass_nil hh0
  refine ⟨e FUEL, DEPTH, tblOf (t FUEL), envOk (allCons F14.ok (allCons F15.ok (allCons F16.ok (allCons F29.ok allNil)))) allNil, rfl, t_ok FUEL, ?_⟩
  rw [params, results]
  exact (run FUEL ).trans hr
end F12
namespace F13
def cons : List (Nat × Con) := []
def exts : List (Nat × Ext) := []
def h : List (Nat × Nat × Hint) := [(13, 2, { live := [0, 3], rows := [], own := false, inpl := false })]
noncomputable def e (M : Nat) : Env := env cons exts h M
noncomputable def t13_0 (_ : Nat) : List Ent := []
theorem t13_0_ok (M : Nat) : AllOk (e M) (tblOf (t13_0 M)) := AllOk.nil
structure S2 where
  d1 : D
  i2 : Int
inductive X2 where
  | e0 (d1 : D) (i2 : Int)
  | e1 (d1 : D) (i2 : Int)
  | e2 (d1 : D) (i2 : Int)
def st2 (M : Nat) : S2 → (S2 → Option D) → (X2 → Option D) → Option D
  | ⟨d1, i2⟩, rec, K => (cond (ltI i2 (nI d1.elems.length)) (cond (leI i2 20) (cond (inb i2 d1.elems.length) (cond (gtI (nI ((ix d1.elems i2.toNat).at 2).s.size) 100) (K (.e0 d1 i2)) (rec ⟨d1, (ad .i64 i2 1)⟩)) none) (K (.e1 d1 i2))) (K (.e2 d1 i2)))
def lv2 : S2 → List Leaf
  | ⟨d1, i2⟩ => [.d d1, .i i2]
def of2 : List Leaf → Option S2
  | [.d d1, .i i2] => some ⟨d1, i2⟩
  | _ => none
def ex2 (k : Kont) : X2 → Option D
  | .e0 d1 i2 => k .ret ((.d (.slice 38) d1) :: (us 1 ((.d .bool (db false)) :: ((.d (.int .i64) (di i2)) :: ((.d (.int .i64) (di i2)) :: ((.d (.slice 38) d1) :: ((.d (.int .i64) (di (nI d1.elems.length))) :: ((.d .bool (db (ltI i2 (nI d1.elems.length)))) :: ((.d .bool (db true)) :: ((.d (.int .i64) (di i2)) :: ((.d .bool (db (leI i2 20))) :: ((.d .bool (db (leI i2 20))) :: (us 2 ((.d (.slice 38) d1) :: ((.d (.int .i64) (di i2)) :: ((.cptr (.struct [34, 3, 9, 3, 3, 36]) (ix d1.elems i2.toNat)) :: ((.cptr .str ((ix d1.elems i2.toNat).at 2)) :: ((.d .str ((ix d1.elems i2.toNat).at 2)) :: ((.d (.int .i64) (di (nI ((ix d1.elems i2.toNat).at 2).s.size))) :: ((.d .bool (db (gtI (nI ((ix d1.elems i2.toNat).at 2).s.size) 100))) :: (us 3 []))))))))))))))))))))) []
  | .e1 d1 i2 => k (.exit 0) ((.d (.slice 38) d1) :: (us 2 ((.d (.int .i64) (di i2)) :: ((.d (.int .i64) (di i2)) :: ((.d (.slice 38) d1) :: ((.d (.int .i64) (di (nI d1.elems.length))) :: ((.d .bool (db (ltI i2 (nI d1.elems.length)))) :: ((.d .bool (db true)) :: ((.d (.int .i64) (di i2)) :: ((.d .bool (db (leI i2 20))) :: ((.d .bool (db (leI i2 20))) :: (us 12 [])))))))))))) []
  | .e2 d1 i2 => k (.exit 0) ((.d (.slice 38) d1) :: (us 2 ((.d (.int .i64) (di i2)) :: ((.d (.int .i64) (di i2)) :: ((.d (.slice 38) d1) :: ((.d (.int .i64) (di (nI d1.elems.length))) :: ((.d .bool (db (ltI i2 (nI d1.elems.length)))) :: ((.d .bool (db false)) :: ((.tup []) :: ((.tup []) :: ((.d .bool (db false)) :: (us 12 [])))))))))))) []
def ps2 : List PV := ((.d (.slice 38) .x) :: (up 2 ((.d (.int .i64) (.int .i64)) :: (up 20 []))))
def qs2 : List PO := []
noncomputable def sum2 (M : Nat) : Sum := sumS [0, 3] ps2 qs2 [] of2 (st2 M) ex2 M
theorem sok2 (M : Nat) : SumOk (e M) (call (e M) 5) 13 0 (loopAt (e M) 13 2) (sum2 M) :=
  sumOk_st (T := tblOf (t13_0 M)) (n0 := 0) (lv := lv2) (t13_0_ok M) (by kernel_rfl) rfl (by intro ls s h; unfold of2 at h; split at h <;> simp at h; subst h; rfl) (by intro s; kernel_rfl) (by intro s; kernel_rfl) (by intro s nx k; kernel_rfl)
noncomputable def t13_1 (M : Nat) : List Ent := ⟨13, 5, 0, 2, sum2 M⟩ :: t13_0 M
theorem t13_1_ok (M : Nat) : AllOk (e M) (tblOf (t13_1 M)) := (t13_0_ok M).add ⟨13, 5, 0, 2, sum2 M⟩ (by kernel_rfl) (sok2 M)
def s (M : Nat) (p0 : D) : Option D :=
  (goS (st2 M) M ⟨p0, 0⟩ fun x => match x with | .e0 d1 i2 => (some (db false)) | .e1 d1 i2 => (some (db (leI (nI d1.elems.length) 20))) | .e2 d1 i2 => (some (db (leI (nI d1.elems.length) 20))))
theorem run (M : Nat) (p0 : D) : callS (e M) (tblOf (t13_1 M)) 6 13 [.d (.slice 38) p0] [] (fun v H => finish ty [4] v H) = s M p0 := by kernel_rfl
noncomputable abbrev t (M : Nat) : List Ent := t13_1 M
theorem t_ok (M : Nat) : AllOk (e M) (tblOf (t M)) := t13_1_ok M
def c : Con := { run := fun ds => match ds with | [p0] => s FUEL p0 | _ => none, fresh := false, plain := true }
theorem fun_at : Tryd.prog.funcs[13]? = some Tryd.f13 := by kernel_rfl
theorem params : Tryd.f13.params.toList.map ty = [(.slice 38)] := by kernel_rfl
theorem results : Tryd.f13.resultTypes.toList = [4] := by kernel_rfl
theorem flat : Tryd.f13.resultTypes.toList.all (fun t => K.flat ty 20 (ty t)) = true := by kernel_rfl
theorem ok : ConOk (13, c) := by
  intro fn hfn
  obtain rfl : Tryd.f13 = fn := Option.some.inj (fun_at.symm.trans hfn)
  refine contract_flat (n := 20) hgl (fun _ => flat) (fun ds r hh0 hr => ?_)
  rw [params] at hh0
  obtain ⟨p0, ds0, rfl, h0, hh1⟩ := hass_cons hh0
  obtain rfl := hass_nil hh1
  refine ⟨e FUEL, DEPTH, tblOf (t FUEL), envOk allNil allNil, rfl, t_ok FUEL, ?_⟩
  rw [params, results]
  exact (run FUEL p0).trans hr
end F13
namespace F3
def cons : List (Nat × Con) := [(12, F12.c), (13, F13.c), (14, F14.c), (15, F15.c), (16, F16.c)]
def exts : List (Nat × Ext) := []
def h : List (Nat × Nat × Hint) := [(3, 14, { live := [0, 5, 7, 8, 9, 10, 13], rows := [], own := false, inpl := false })]
noncomputable def e (M : Nat) : Env := env cons exts h M
noncomputable def t3_0 (_ : Nat) : List Ent := []
theorem t3_0_ok (M : Nat) : AllOk (e M) (tblOf (t3_0 M)) := AllOk.nil
structure S14 where
  d6 : D
  d7 : D
  d8 : D
  d9 : D
  i10 : Int
  d11 : D
  d12 : D
inductive X14 where
  | e0 (d6 : D) (d7 : D) (d8 : D) (d9 : D) (i10 : Int) (d11 : D) (d12 : D) (r13 : D) (r14 : D)
  | e1 (d6 : D) (d7 : D) (d8 : D) (d9 : D) (i10 : Int) (d11 : D) (d12 : D) (r13 : D)
  | e2 (d6 : D) (d7 : D) (d8 : D) (d9 : D) (i10 : Int) (d11 : D) (d12 : D) (r13 : D)
  | e (d6 : D) (d7 : D) (d8 : D) (d9 : D) (i10 : Int) (d11 : D) (d12 : D) (r13 : D)
  | e4 (d6 : D) (d7 : D) (d8 : D) (d9 : D) (i10 : Int) (d11 : D) (d12 : D)
def st14 (M : Nat) : S14 → (S14 → Option D) → (X14 → Option D) → Option D
  | ⟨d6, d7, d8, d9, i10, d11, d12⟩, rec, K => (cond (ltI i10 (nI d6.elems.length)) (cond (inb i10 d6.elems.length) (bd (F16.s FUEL d12 (ix d6.elems i10.toNat)) fun r13 => (cond (neI (r13.at 1).i 0) (cond d7.b (cond (eqI d8.i 13) (cond (eqI d9.i i10) (bd (F15.s FUEL d11 d12) fun r14 => (K (.e0 d6 d7 d8 d9 i10 d11 d12 r13 r14))) (K (.e1 d6 d7 d8 d9 i10 d11 d12 r13))) (K (.e2 d6 d7 d8 d9 i10 d11 d12 r13))) (K (.e d6 d7 d8 d9 i10 d11 d12 r13))) (rec ⟨d6, d7, d8, d9, (ad .i64 i10 1), d11, (r13.at 0)⟩))) none) (K (.e4 d6 d7 d8 d9 i10 d11 d12)))
def lv14 : S14 → List Leaf
  | ⟨d6, d7, d8, d9, i10, d11, d12⟩ => [.d d6, .d d7, .d d8, .d d9, .i i10, .d d11, .d d12]
def of14 : List Leaf → Option S14
  | [.d d6, .d d7, .d d8, .d d9, .i i10, .d d11, .d d12] => some ⟨d6, d7, d8, d9, i10, d11, d12⟩
  | _ => none
def ex14 (k : Kont) : X14 → Option D
  | .e0 d6 d7 d8 d9 i10 d11 d12 r13 r14 => k .ret ((.d (.slice 38) d6) :: (us 3 ((.d .bool r14) :: ((.d .bool d7) :: (us 1 ((.ptr 0 [] (.struct [25, 3, 3])) :: ((.d (.int .i64) d8) :: ((.d (.int .i64) d9) :: ((.ptr 1 [] (.struct [25, 3, 3])) :: (us 2 ((.d (.int .i64) (di i10)) :: ((.ptr 2 [] (.struct [25, 3, 3])) :: ((.d (.int .i64) (r13.at 1)) :: (us 60 ((.d (.int .i64) (di i10)) :: ((.d (.slice 38) d6) :: ((.d (.int .i64) (di (nI d6.elems.length))) :: ((.d .bool (db (ltI i10 (nI d6.elems.length)))) :: (us 2 ((.dtup [(.struct [25, 3, 3]), (.int .i64)] r13) :: ((.d (.struct [25, 3, 3]) d12) :: ((.d (.slice 38) d6) :: ((.d (.int .i64) (di i10)) :: ((.cptr (.struct [34, 3, 9, 3, 3, 36]) (ix d6.elems i10.toNat)) :: ((.d (.struct [34, 3, 9, 3, 3, 36]) (ix d6.elems i10.toNat)) :: ((.dtup [(.struct [25, 3, 3]), (.int .i64)] r13) :: ((.d (.struct [25, 3, 3]) (r13.at 0)) :: ((.d (.int .i64) (r13.at 1)) :: ((.d (.int .i64) (r13.at 1)) :: ((.d .bool (db (neI (r13.at 1).i 0))) :: ((.d .bool d7) :: ((.d .bool (db true)) :: ((.d (.int .i64) d8) :: ((.d .bool (db (eqI d8.i 13))) :: ((.d .bool (db (eqI d8.i 13))) :: ((.d .bool (db true)) :: ((.d (.int .i64) d9) :: ((.d (.int .i64) (di i10)) :: ((.d .bool (db (eqI d9.i i10))) :: ((.d .bool (db (eqI d9.i i10))) :: ((.d .bool (db true)) :: ((.d (.struct [25, 3, 3]) d11) :: ((.d (.struct [25, 3, 3]) d12) :: ((.d .bool r14) :: ((.d .bool r14) :: (us 11 [])))))))))))))))))))))))))))))))))))))))))))))) [(.var (.struct [25, 3, 3]) (.d (.struct [25, 3, 3]) d11)), (.var (.struct [25, 3, 3]) (.d (.struct [25, 3, 3]) d12)), (.var (.struct [25, 3, 3]) (.d (.struct [25, 3, 3]) (r13.at 0)))]
  | .e1 d6 d7 d8 d9 i10 d11 d12 r13 => k .ret ((.d (.slice 38) d6) :: (us 3 ((.d .bool (db false)) :: ((.d .bool d7) :: (us 1 ((.ptr 0 [] (.struct [25, 3, 3])) :: ((.d (.int .i64) d8) :: ((.d (.int .i64) d9) :: ((.ptr 1 [] (.struct [25, 3, 3])) :: (us 2 ((.d (.int .i64) (di i10)) :: ((.ptr 2 [] (.struct [25, 3, 3])) :: ((.d (.int .i64) (r13.at 1)) :: (us 60 ((.d (.int .i64) (di i10)) :: ((.d (.slice 38) d6) :: ((.d (.int .i64) (di (nI d6.elems.length))) :: ((.d .bool (db (ltI i10 (nI d6.elems.length)))) :: (us 2 ((.dtup [(.struct [25, 3, 3]), (.int .i64)] r13) :: ((.d (.struct [25, 3, 3]) d12) :: ((.d (.slice 38) d6) :: ((.d (.int .i64) (di i10)) :: ((.cptr (.struct [34, 3, 9, 3, 3, 36]) (ix d6.elems i10.toNat)) :: ((.d (.struct [34, 3, 9, 3, 3, 36]) (ix d6.elems i10.toNat)) :: ((.dtup [(.struct [25, 3, 3]), (.int .i64)] r13) :: ((.d (.struct [25, 3, 3]) (r13.at 0)) :: ((.d (.int .i64) (r13.at 1)) :: ((.d (.int .i64) (r13.at 1)) :: ((.d .bool (db (neI (r13.at 1).i 0))) :: ((.d .bool d7) :: ((.d .bool (db true)) :: ((.d (.int .i64) d8) :: ((.d .bool (db (eqI d8.i 13))) :: ((.d .bool (db (eqI d8.i 13))) :: ((.d .bool (db true)) :: ((.d (.int .i64) d9) :: ((.d (.int .i64) (di i10)) :: ((.d .bool (db (eqI d9.i i10))) :: ((.d .bool (db (eqI d9.i i10))) :: ((.d .bool (db false)) :: ((.tup []) :: ((.tup []) :: ((.tup []) :: ((.d .bool (db false)) :: (us 11 [])))))))))))))))))))))))))))))))))))))))))))))) [(.var (.struct [25, 3, 3]) (.d (.struct [25, 3, 3]) d11)), (.var (.struct [25, 3, 3]) (.d (.struct [25, 3, 3]) d12)), (.var (.struct [25, 3, 3]) (.d (.struct [25, 3, 3]) (r13.at 0)))]
  | .e2 d6 d7 d8 d9 i10 d11 d12 r13 => k .ret ((.d (.slice 38) d6) :: (us 3 ((.d .bool (db false)) :: ((.d .bool d7) :: (us 1 ((.ptr 0 [] (.struct [25, 3, 3])) :: ((.d (.int .i64) d8) :: ((.d (.int .i64) d9) :: ((.ptr 1 [] (.struct [25, 3, 3])) :: (us 2 ((.d (.int .i64) (di i10)) :: ((.ptr 2 [] (.struct [25, 3, 3])) :: ((.d (.int .i64) (r13.at 1)) :: (us 60 ((.d (.int .i64) (di i10)) :: ((.d (.slice 38) d6) :: ((.d (.int .i64) (di (nI d6.elems.length))) :: ((.d .bool (db (ltI i10 (nI d6.elems.length)))) :: (us 2 ((.dtup [(.struct [25, 3, 3]), (.int .i64)] r13) :: ((.d (.struct [25, 3, 3]) d12) :: ((.d (.slice 38) d6) :: ((.d (.int .i64) (di i10)) :: ((.cptr (.struct [34, 3, 9, 3, 3, 36]) (ix d6.elems i10.toNat)) :: ((.d (.struct [34, 3, 9, 3, 3, 36]) (ix d6.elems i10.toNat)) :: ((.dtup [(.struct [25, 3, 3]), (.int .i64)] r13) :: ((.d (.struct [25, 3, 3]) (r13.at 0)) :: ((.d (.int .i64) (r13.at 1)) :: ((.d (.int .i64) (r13.at 1)) :: ((.d .bool (db (neI (r13.at 1).i 0))) :: ((.d .bool d7) :: ((.d .bool (db true)) :: ((.d (.int .i64) d8) :: ((.d .bool (db (eqI d8.i 13))) :: ((.d .bool (db (eqI d8.i 13))) :: ((.d .bool (db false)) :: ((.tup []) :: ((.tup []) :: ((.tup []) :: ((.d .bool (db false)) :: ((.d .bool (db false)) :: ((.tup []) :: ((.tup []) :: ((.tup []) :: ((.d .bool (db false)) :: (us 11 [])))))))))))))))))))))))))))))))))))))))))))))) [(.var (.struct [25, 3, 3]) (.d (.struct [25, 3, 3]) d11)), (.var (.struct [25, 3, 3]) (.d (.struct [25, 3, 3]) d12)), (.var (.struct [25, 3, 3]) (.d (.struct [25, 3, 3]) (r13.at 0)))]
  | .e d6 d7 d8 d9 i10 d11 d12 r13 => k .ret ((.d (.slice 38) d6) :: (us 3 ((.d .bool (db false)) :: ((.d .bool d7) :: (us 1 ((.ptr 0 [] (.struct [25, 3, 3])) :: ((.d (.int .i64) d8) :: ((.d (.int .i64) d9) :: ((.ptr 1 [] (.struct [25, 3, 3])) :: (us 2 ((.d (.int .i64) (di i10)) :: ((.ptr 2 [] (.struct [25, 3, 3])) :: ((.d (.int .i64) (r13.at 1)) :: (us 60 ((.d (.int .i64) (di i10)) :: ((.d (.slice 38) d6) :: ((.d (.int .i64) (di (nI d6.elems.length))) :: ((.d .bool (db (ltI i10 (nI d6.elems.length)))) :: (us 2 ((.dtup [(.struct [25, 3, 3]), (.int .i64)] r13) :: ((.d (.struct [25, 3, 3]) d12) :: ((.d (.slice 38) d6) :: ((.d (.int .i64) (di i10)) :: ((.cptr (.struct [34, 3, 9, 3, 3, 36]) (ix d6.elems i10.toNat)) :: ((.d (.struct [34, 3, 9, 3, 3, 36]) (ix d6.elems i10.toNat)) :: ((.dtup [(.struct [25, 3, 3]), (.int .i64)] r13) :: ((.d (.struct [25, 3, 3]) (r13.at 0)) :: ((.d (.int .i64) (r13.at 1)) :: ((.d (.int .i64) (r13.at 1)) :: ((.d .bool (db (neI (r13.at 1).i 0))) :: ((.d .bool d7) :: ((.d .bool (db false)) :: ((.tup []) :: ((.tup []) :: ((.d .bool (db false)) :: ((.d .bool (db false)) :: ((.tup []) :: ((.tup []) :: ((.tup []) :: ((.d .bool (db false)) :: ((.d .bool (db false)) :: ((.tup []) :: ((.tup []) :: ((.tup []) :: ((.d .bool (db false)) :: (us 11 [])))))))))))))))))))))))))))))))))))))))))))))) [(.var (.struct [25, 3, 3]) (.d (.struct [25, 3, 3]) d11)), (.var (.struct [25, 3, 3]) (.d (.struct [25, 3, 3]) d12)), (.var (.struct [25, 3, 3]) (.d (.struct [25, 3, 3]) (r13.at 0)))]
  | .e4 d6 d7 d8 d9 i10 d11 d12 => k (.exit 0) ((.d (.slice 38) d6) :: (us 4 ((.d .bool d7) :: (us 1 ((.ptr 0 [] (.struct [25, 3, 3])) :: ((.d (.int .i64) d8) :: ((.d (.int .i64) d9) :: ((.ptr 1 [] (.struct [25, 3, 3])) :: (us 2 ((.d (.int .i64) (di i10)) :: (us 62 ((.d (.int .i64) (di i10)) :: ((.d (.slice 38) d6) :: ((.d (.int .i64) (di (nI d6.elems.length))) :: ((.d .bool (db (ltI i10 (nI d6.elems.length)))) :: (us 39 [])))))))))))))))) [(.var (.struct [25, 3, 3]) (.d (.struct [25, 3, 3]) d11)), (.var (.struct [25, 3, 3]) (.d (.struct [25, 3, 3]) d12))]
def ps14 : List PV := ((.d (.slice 38) .x) :: (up 4 ((.d .bool .x) :: (up 1 ((.ptr 0 [] (.struct [25, 3, 3])) :: ((.d (.int .i64) .x) :: ((.d (.int .i64) .x) :: ((.ptr 1 [] (.struct [25, 3, 3])) :: (up 2 ((.d (.int .i64) (.int .i64)) :: (up 105 [])))))))))))
def qs14 : List PO := [(.var (.struct [25, 3, 3]) (.d (.struct [25, 3, 3]) .x)), (.var (.struct [25, 3, 3]) (.d (.struct [25, 3, 3]) .x))]
noncomputable def sum14 (M : Nat) : Sum := sumS [0, 5, 7, 8, 9, 10, 13] ps14 qs14 [] of14 (st14 M) ex14 M
theorem sok14 (M : Nat) : SumOk (e M) (call (e M) 5) 3 0 (loopAt (e M) 3 14) (sum14 M) :=
  sumOk_st (T := tblOf (t3_0 M)) (n0 := 2) (lv := lv14) (t3_0_ok M) (by kernel_rfl) rfl (by intro ls s h; unfold of14 at h; split at h <;> simp at h; subst h; rfl) (by intro s; kernel_rfl) (by intro s; kernel_rfl) (by intro s nx k; kernel_rfl)
noncomputable def t3_1 (M : Nat) : List Ent := ⟨3, 5, 0, 14, sum14 M⟩ :: t3_0 M
theorem t3_1_ok (M : Nat) : AllOk (e M) (tblOf (t3_1 M)) := (t3_0_ok M).add ⟨3, 5, 0, 14, sum14 M⟩ (by kernel_rfl) (sok14 M)
def s (M : Nat) (p0 : D) (p1 : Int) : Option D :=
  (bd (F12.s FUEL) fun r1 => (cond (!r1.b) (some (db false)) (bd (F13.s FUEL p0) fun r2 => (cond (!r2.b) (some r1) (cond (ltI p1 0) (some r1) (cond (gtI p1 (nI p0.elems.length)) (some r1) (bd (F14.s FUEL p0) fun r3 => (cond (true && (leI 0 p1) && (leI p1 (nI p0.elems.length)) && (leI (nI p0.elems.length) (nI p0.elems.length))) (bd (F14.s FUEL (dl p0.nn ((p0.elems.drop 0).take (p1.toNat - 0)))) fun r4 => (cond (eqI (r3.at 1).i 0) (cond (neI (r4.at 1).i 0) (some (db false)) (cond (neI (r4.at 1).i 0) (cond (neI (r3.at 1).i 13) (some (db false)) (cond (neI (r3.at 2).i (r4.at 2).i) (some (db false)) (cond (neI (r4.at 1).i 0) (cond r1.b (bd (F15.s FUEL (r3.at 0) (r4.at 0)) fun r5 => (some r5)) (some (db false))) (goS (st14 M) M ⟨p0, r1, (r3.at 1), (r3.at 2), p1, (r3.at 0), (r4.at 0)⟩ fun x => match x with | .e0 d6 d7 d8 d9 i10 d11 d12 r13 r14 => (some r14) | .e1 d6 d7 d8 d9 i10 d11 d12 r13 => (some (db false)) | .e2 d6 d7 d8 d9 i10 d11 d12 r13 => (some (db false)) | .e d6 d7 d8 d9 i10 d11 d12 r13 => (some (db false)) | .e4 d6 d7 d8 d9 i10 d11 d12 => (cond d7.b (cond (eqI d8.i 0) (bd (F15.s FUEL d11 d12) fun r15 => (some r15)) (some (db false))) (some (db false))))))) (cond (neI (r4.at 1).i 0) (cond r1.b (bd (F15.s FUEL (r3.at 0) (r4.at 0)) fun r16 => (some r16)) (some (db false))) (goS (st14 M) M ⟨p0, r1, (r3.at 1), (r3.at 2), p1, (r3.at 0), (r4.at 0)⟩ fun x => match x with | .e0 d6 d7 d8 d9 i10 d11 d12 r13 r14 => (some r14) | .e1 d6 d7 d8 d9 i10 d11 d12 r13 => (some (db false)) | .e2 d6 d7 d8 d9 i10 d11 d12 r13 => (some (db false)) | .e d6 d7 d8 d9 i10 d11 d12 r13 => (some (db false)) | .e4 d6 d7 d8 d9 i10 d11 d12 => (cond d7.b (cond (eqI d8.i 0) (bd (F15.s FUEL d11 d12) fun r17 => (some r17)) (some (db false))) (some (db false))))))) (cond (neI (r4.at 1).i 0) (cond (neI (r3.at 1).i 13) (some (db false)) (cond (neI (r3.at 2).i (r4.at 2).i) (some (db false)) (cond (neI (r4.at 1).i 0) (cond r1.b (bd (F15.s FUEL (r3.at 0) (r4.at 0)) fun r18 => (some r18)) (some (db false))) (goS (st14 M) M ⟨p0, r1, (r3.at 1), (r3.at 2), p1, (r3.at 0), (r4.at 0)⟩ fun x => match x with | .e0 d6 d7 d8 d9 i10 d11 d12 r13 r14 => (some r14) | .e1 d6 d7 d8 d9 i10 d11 d12 r13 => (some (db false)) | .e2 d6 d7 d8 d9 i10 d11 d12 r13 => (some (db false)) | .e d6 d7 d8 d9 i10 d11 d12 r13 => (some (db false)) | .e4 d6 d7 d8 d9 i10 d11 d12 => (cond d7.b (cond (eqI d8.i 0) (bd (F15.s FUEL d11 d12) fun r19 => (some r19)) (some (db false))) (some (db false))))))) (cond (neI (r4.at 1).i 0) (cond r1.b (bd (F15.s FUEL (r3.at 0) (r4.at 0)) fun r20 => (some r20)) (some (db false))) (goS (st14 M) M ⟨p0, r1, (r3.at 1), (r3.at 2), p1, (r3.at 0), (r4.at 0)⟩ fun x => match x with | .e0 d6 d7 d8 d9 i10 d11 d12 r13 r14 => (some r14) | .e1 d6 d7 d8 d9 i10 d11 d12 r13 => (some (db false)) | .e2 d6 d7 d8 d9 i10 d11 d12 r13 => (some (db false)) | .e d6 d7 d8 d9 i10 d11 d12 r13 => (some (db false)) | .e4 d6 d7 d8 d9 i10 d11 d12 => (cond d7.b (cond (eqI d8.i 0) (bd (F15.s FUEL d11 d12) fun r21 => (some r21)) (some (db false))) (some (db false)))))))) none))))))))
theorem run (M : Nat) (p0 : D) (p1 : Int) : callS (e M) (tblOf (t3_1 M)) 6 3 [.d (.slice 38) p0, .d (.int .i64) (di p1)] [] (fun v H => finish ty [4] v H) = s M p0 p1 := by kernel_rfl
noncomputable abbrev t (M : Nat) : List Ent := t3_1 M
theorem t_ok (M : Nat) : AllOk (e M) (tblOf (t M)) := t3_1_ok M
def c : Con := { run := fun ds => match ds with | [p0, p1] => s FUEL p0 p1.i | _ => none, fresh := false, plain := true }
theorem fun_at : Tryd.prog.funcs[3]? = some Tryd.f3 := by kernel_rfl
theorem params : Tryd.f3.params.toList.map ty = [(.slice 38), (.int .i64)] := by kernel_rfl
theorem results : Tryd.f3.resultTypes.toList = [4] := by kernel_rfl
theorem flat : Tryd.f3.resultTypes.toList.all (fun t => K.flat ty 20 (ty t)) = true := by kernel_rfl
theorem ok : ConOk (3, c) := by
  intro fn hfn
  obtain rfl : Tryd.f3 = fn := Option.some.inj (fun_at.symm.trans hfn)
  refine contract_flat (n := 20) hgl (fun _ => flat) (fun ds r hh0 hr => ?_)
  rw [params] at hh0
  obtain ⟨p0, ds0, rfl, h0, hh1⟩ := hass_cons hh0
  obtain ⟨p1, ds1, rfl, h1, hh2⟩ := hass_cons hh1
  obtain ⟨p1, rfl⟩ := has_int h1
  obtain rfl := hass_nil hh2
  refine ⟨e FUEL, DEPTH, tblOf (t FUEL), envOk (allCons F12.ok (allCons F13.ok (allCons F14.ok (allCons F15.ok (allCons F16.ok allNil))))) allNil, rfl, t_ok FUEL, ?_⟩
  rw [params, results]
  exact (run FUEL p0 p1).trans hr
end F3
namespace F4
def cons : List (Nat × Con) := [(12, F12.c), (13, F13.c), (14, F14.c)]
def exts : List (Nat × Ext) := []
def h : List (Nat × Nat × Hint) := [(4, 13, { live := [0, 3, 5, 8, 9, 10], rows := [], own := false, inpl := false })]
noncomputable def e (M : Nat) : Env := env cons exts h M
noncomputable def t4_0 (_ : Nat) : List Ent := []
theorem t4_0_ok (M : Nat) : AllOk (e M) (tblOf (t4_0 M)) := AllOk.nil
structure S13 where
  d10 : D
  d11 : D
  d12 : D
  d13 : D
  i14 : Int
  d15 : D
inductive X13 where
  | e0 (d10 : D) (d11 : D) (d12 : D) (d13 : D) (i14 : Int) (d15 : D)
  | e1 (d10 : D) (d11 : D) (d12 : D) (d13 : D) (i14 : Int) (d15 : D)
  | e2 (d10 : D) (d11 : D) (d12 : D) (d13 : D) (i14 : Int) (d15 : D)
  | e3 (d10 : D) (d11 : D) (d12 : D) (d13 : D) (i14 : Int) (d15 : D)
  | e (d10 : D) (d11 : D) (d12 : D) (d13 : D) (i14 : Int) (d15 : D)
  | e5 (d10 : D) (d11 : D) (d12 : D) (d13 : D) (i14 : Int) (d15 : D)
  | e6 (d10 : D) (d11 : D) (d12 : D) (d13 : D) (i14 : Int) (d15 : D)
  | e7 (d10 : D) (d11 : D) (d12 : D) (d13 : D) (i14 : Int) (d15 : D)
def st13 (M : Nat) : S13 → (S13 → Option D) → (X13 → Option D) → Option D
  | ⟨d10, d11, d12, d13, i14, d15⟩, rec, K => (cond (ltI i14 (nI d10.elems.length)) (cond (inb i14 d10.elems.length) (cond (eqI ((ix d10.elems i14.toNat).at 0).i 7) (cond (inb i14 d10.elems.length) (cond (leI ((ix d10.elems i14.toNat).at 3).i d12.i) (K (.e0 d10 d11 d12 d13 i14 d15)) (cond (inb i14 d10.elems.length) (cond (inb i14 d10.elems.length) (cond (eqI ((ix d10.elems i14.toNat).at 0).i 0) (cond (inb i14 d10.elems.length) (cond (neI ((ix d10.elems i14.toNat).at 1).i (ad .i64 d13.i 1)) (K (.e1 d10 d11 d12 d13 i14 d15)) (cond (inb i14 d10.elems.length) (cond (inb i14 d10.elems.length) (cond (neI ((ix d10.elems i14.toNat).at 0).i 7) (cond (inb i14 d10.elems.length) (cond (gtI ((ix d10.elems i14.toNat).at 1).i ((ix d10.elems i14.toNat).at 1).i) (K (.e2 d10 d11 d12 d13 i14 d15)) (rec ⟨d10, d11, ((ix d10.elems i14.toNat).at 3), ((ix d10.elems i14.toNat).at 1), (ad .i64 i14 1), d15⟩)) none) (rec ⟨d10, d11, ((ix d10.elems i14.toNat).at 3), ((ix d10.elems i14.toNat).at 1), (ad .i64 i14 1), d15⟩)) none) none)) none) (cond (inb i14 d10.elems.length) (cond (neI ((ix d10.elems i14.toNat).at 0).i 7) (cond (inb i14 d10.elems.length) (cond (gtI ((ix d10.elems i14.toNat).at 1).i d13.i) (K (.e3 d10 d11 d12 d13 i14 d15)) (rec ⟨d10, d11, ((ix d10.elems i14.toNat).at 3), d13, (ad .i64 i14 1), d15⟩)) none) (rec ⟨d10, d11, ((ix d10.elems i14.toNat).at 3), d13, (ad .i64 i14 1), d15⟩)) none)) none) none)) none) (cond (inb i14 d10.elems.length) (cond (eqI ((ix d10.elems i14.toNat).at 0).i 0) (cond (inb i14 d10.elems.length) (cond (neI ((ix d10.elems i14.toNat).at 1).i (ad .i64 d13.i 1)) (K (.e d10 d11 d12 d13 i14 d15)) (cond (inb i14 d10.elems.length) (cond (inb i14 d10.elems.length) (cond (neI ((ix d10.elems i14.toNat).at 0).i 7) (cond (inb i14 d10.elems.length) (cond (gtI ((ix d10.elems i14.toNat).at 1).i ((ix d10.elems i14.toNat).at 1).i) (K (.e5 d10 d11 d12 d13 i14 d15)) (rec ⟨d10, d11, d12, ((ix d10.elems i14.toNat).at 1), (ad .i64 i14 1), d15⟩)) none) (rec ⟨d10, d11, d12, ((ix d10.elems i14.toNat).at 1), (ad .i64 i14 1), d15⟩)) none) none)) none) (cond (inb i14 d10.elems.length) (cond (neI ((ix d10.elems i14.toNat).at 0).i 7) (cond (inb i14 d10.elems.length) (cond (gtI ((ix d10.elems i14.toNat).at 1).i d13.i) (K (.e6 d10 d11 d12 d13 i14 d15)) (rec ⟨d10, d11, d12, d13, (ad .i64 i14 1), d15⟩)) none) (rec ⟨d10, d11, d12, d13, (ad .i64 i14 1), d15⟩)) none)) none)) none) (K (.e7 d10 d11 d12 d13 i14 d15)))
def lv13 : S13 → List Leaf
  | ⟨d10, d11, d12, d13, i14, d15⟩ => [.d d10, .d d11, .d d12, .d d13, .i i14, .d d15]
def of13 : List Leaf → Option S13
  | [.d d10, .d d11, .d d12, .d d13, .i i14, .d d15] => some ⟨d10, d11, d12, d13, i14, d15⟩
  | _ => none
def ex13 (k : Kont) : X13 → Option D
  | .e0 d10 d11 d12 d13 i14 d15 => k .ret ((.d (.slice 38) d10) :: (us 1 ((.d .bool (db false)) :: ((.d .bool d11) :: (us 1 ((.ptr 0 [] (.struct [25, 3, 3])) :: (us 2 ((.d (.int .i64) d12) :: ((.d (.int .i64) d13) :: ((.d (.int .i64) (di i14)) :: (us 17 ((.d (.int .i64) (di i14)) :: ((.d (.slice 38) d10) :: ((.d (.int .i64) (di (nI d10.elems.length))) :: ((.d .bool (db (ltI i14 (nI d10.elems.length)))) :: (us 2 ((.d (.slice 38) d10) :: ((.d (.int .i64) (di i14)) :: ((.cptr (.struct [34, 3, 9, 3, 3, 36]) (ix d10.elems i14.toNat)) :: ((.cptr (.int .i64) ((ix d10.elems i14.toNat).at 0)) :: ((.d (.int .i64) ((ix d10.elems i14.toNat).at 0)) :: ((.d .bool (db (eqI ((ix d10.elems i14.toNat).at 0).i 7))) :: ((.d (.slice 38) d10) :: ((.d (.int .i64) (di i14)) :: ((.cptr (.struct [34, 3, 9, 3, 3, 36]) (ix d10.elems i14.toNat)) :: ((.cptr (.int .i64) ((ix d10.elems i14.toNat).at 3)) :: ((.d (.int .i64) ((ix d10.elems i14.toNat).at 3)) :: ((.d (.int .i64) d12) :: ((.d .bool (db (leI ((ix d10.elems i14.toNat).at 3).i d12.i))) :: (us 52 [])))))))))))))))))))))))))))))) [(.var (.struct [25, 3, 3]) (.d (.struct [25, 3, 3]) d15))]
  | .e1 d10 d11 d12 d13 i14 d15 => k .ret ((.d (.slice 38) d10) :: (us 1 ((.d .bool (db false)) :: ((.d .bool d11) :: (us 1 ((.ptr 0 [] (.struct [25, 3, 3])) :: (us 2 ((.d (.int .i64) ((ix d10.elems i14.toNat).at 3)) :: ((.d (.int .i64) d13) :: ((.d (.int .i64) (di i14)) :: (us 17 ((.d (.int .i64) (di i14)) :: ((.d (.slice 38) d10) :: ((.d (.int .i64) (di (nI d10.elems.length))) :: ((.d .bool (db (ltI i14 (nI d10.elems.length)))) :: (us 2 ((.d (.slice 38) d10) :: ((.d (.int .i64) (di i14)) :: ((.cptr (.struct [34, 3, 9, 3, 3, 36]) (ix d10.elems i14.toNat)) :: ((.cptr (.int .i64) ((ix d10.elems i14.toNat).at 0)) :: ((.d (.int .i64) ((ix d10.elems i14.toNat).at 0)) :: ((.d .bool (db (eqI ((ix d10.elems i14.toNat).at 0).i 7))) :: ((.d (.slice 38) d10) :: ((.d (.int .i64) (di i14)) :: ((.cptr (.struct [34, 3, 9, 3, 3, 36]) (ix d10.elems i14.toNat)) :: ((.cptr (.int .i64) ((ix d10.elems i14.toNat).at 3)) :: ((.d (.int .i64) ((ix d10.elems i14.toNat).at 3)) :: ((.d (.int .i64) d12) :: ((.d .bool (db (leI ((ix d10.elems i14.toNat).at 3).i d12.i))) :: ((.d (.slice 38) d10) :: ((.d (.int .i64) (di i14)) :: ((.cptr (.struct [34, 3, 9, 3, 3, 36]) (ix d10.elems i14.toNat)) :: ((.cptr (.int .i64) ((ix d10.elems i14.toNat).at 3)) :: ((.d (.int .i64) ((ix d10.elems i14.toNat).at 3)) :: ((.d (.slice 38) d10) :: ((.d (.int .i64) (di i14)) :: ((.cptr (.struct [34, 3, 9, 3, 3, 36]) (ix d10.elems i14.toNat)) :: ((.cptr (.int .i64) ((ix d10.elems i14.toNat).at 0)) :: ((.d (.int .i64) ((ix d10.elems i14.toNat).at 0)) :: ((.d .bool (db (eqI ((ix d10.elems i14.toNat).at 0).i 0))) :: ((.d (.slice 38) d10) :: ((.d (.int .i64) (di i14)) :: ((.cptr (.struct [34, 3, 9, 3, 3, 36]) (ix d10.elems i14.toNat)) :: ((.cptr (.int .i64) ((ix d10.elems i14.toNat).at 1)) :: ((.d (.int .i64) ((ix d10.elems i14.toNat).at 1)) :: ((.d (.int .i64) d13) :: ((.d (.int .i64) (di (ad .i64 d13.i 1))) :: ((.d .bool (db (neI ((ix d10.elems i14.toNat).at 1).i (ad .i64 d13.i 1)))) :: (us 33 []))))))))))))))))))))))))))))))))))))))))))))))))) [(.var (.struct [25, 3, 3]) (.d (.struct [25, 3, 3]) d15))]
  | .e2 d10 d11 d12 d13 i14 d15 => k .ret ((.d (.slice 38) d10) :: (us 1 ((.d .bool (db false)) :: ((.d .bool d11) :: (us 1 ((.ptr 0 [] (.struct [25, 3, 3])) :: (us 2 ((.d (.int .i64) ((ix d10.elems i14.toNat).at 3)) :: ((.d (.int .i64) ((ix d10.elems i14.toNat).at 1)) :: ((.d (.int .i64) (di i14)) :: (us 17 ((.d (.int .i64) (di i14)) :: ((.d (.slice 38) d10) :: ((.d (.int .i64) (di (nI d10.elems.length))) :: ((.d .bool (db (ltI i14 (nI d10.elems.length)))) :: (us 2 ((.d (.slice 38) d10) :: ((.d (.int .i64) (di i14)) :: ((.cptr (.struct [34, 3, 9, 3, 3, 36]) (ix d10.elems i14.toNat)) :: ((.cptr (.int .i64) ((ix d10.elems i14.toNat).at 0)) :: ((.d (.int .i64) ((ix d10.elems i14.toNat).at 0)) :: ((.d .bool (db (eqI ((ix d10.elems i14.toNat).at 0).i 7))) :: ((.d (.slice 38) d10) :: ((.d (.int .i64) (di i14)) :: ((.cptr (.struct [34, 3, 9, 3, 3, 36]) (ix d10.elems i14.toNat)) :: ((.cptr (.int .i64) ((ix d10.elems i14.toNat).at 3)) :: ((.d (.int .i64) ((ix d10.elems i14.toNat).at 3)) :: ((.d (.int .i64) d12) :: ((.d .bool (db (leI ((ix d10.elems i14.toNat).at 3).i d12.i))) :: ((.d (.slice 38) d10) :: ((.d (.int .i64) (di i14)) :: ((.cptr (.struct [34, 3, 9, 3, 3, 36]) (ix d10.elems i14.toNat)) :: ((.cptr (.int .i64) ((ix d10.elems i14.toNat).at 3)) :: ((.d (.int .i64) ((ix d10.elems i14.toNat).at 3)) :: ((.d (.slice 38) d10) :: ((.d (.int .i64) (di i14)) :: ((.cptr (.struct [34, 3, 9, 3, 3, 36]) (ix d10.elems i14.toNat)) :: ((.cptr (.int .i64) ((ix d10.elems i14.toNat).at 0)) :: ((.d (.int .i64) ((ix d10.elems i14.toNat).at 0)) :: ((.d .bool (db (eqI ((ix d10.elems i14.toNat).at 0).i 0))) :: ((.d (.slice 38) d10) :: ((.d (.int .i64) (di i14)) :: ((.cptr (.struct [34, 3, 9, 3, 3, 36]) (ix d10.elems i14.toNat)) :: ((.cptr (.int .i64) ((ix d10.elems i14.toNat).at 1)) :: ((.d (.int .i64) ((ix d10.elems i14.toNat).at 1)) :: ((.d (.int .i64) d13) :: ((.d (.int .i64) (di (ad .i64 d13.i 1))) :: ((.d .bool (db (neI ((ix d10.elems i14.toNat).at 1).i (ad .i64 d13.i 1)))) :: ((.d (.slice 38) d10) :: ((.d (.int .i64) (di i14)) :: ((.cptr (.struct [34, 3, 9, 3, 3, 36]) (ix d10.elems i14.toNat)) :: ((.cptr (.int .i64) ((ix d10.elems i14.toNat).at 1)) :: ((.d (.int .i64) ((ix d10.elems i14.toNat).at 1)) :: ((.d (.slice 38) d10) :: ((.d (.int .i64) (di i14)) :: ((.cptr (.struct [34, 3, 9, 3, 3, 36]) (ix d10.elems i14.toNat)) :: ((.cptr (.int .i64) ((ix d10.elems i14.toNat).at 0)) :: ((.d (.int .i64) ((ix d10.elems i14.toNat).at 0)) :: ((.d .bool (db (neI ((ix d10.elems i14.toNat).at 0).i 7))) :: ((.d .bool (db true)) :: ((.d (.slice 38) d10) :: ((.d (.int .i64) (di i14)) :: ((.cptr (.struct [34, 3, 9, 3, 3, 36]) (ix d10.elems i14.toNat)) :: ((.cptr (.int .i64) ((ix d10.elems i14.toNat).at 1)) :: ((.d (.int .i64) ((ix d10.elems i14.toNat).at 1)) :: ((.d (.int .i64) ((ix d10.elems i14.toNat).at 1)) :: ((.d .bool (db (gtI ((ix d10.elems i14.toNat).at 1).i ((ix d10.elems i14.toNat).at 1).i))) :: ((.d .bool (db (gtI ((ix d10.elems i14.toNat).at 1).i ((ix d10.elems i14.toNat).at 1).i))) :: (us 13 []))))))))))))))))))))))))))))))))))))))))))))))))))))))))))))))))))))) [(.var (.struct [25, 3, 3]) (.d (.struct [25, 3, 3]) d15))]
  | .e3 d10 d11 d12 d13 i14 d15 => k .ret ((.d (.slice 38) d10) :: (us 1 ((.d .bool (db false)) :: ((.d .bool d11) :: (us 1 ((.ptr 0 [] (.struct [25, 3, 3])) :: (us 2 ((.d (.int .i64) ((ix d10.elems i14.toNat).at 3)) :: ((.d (.int .i64) d13) :: ((.d (.int .i64) (di i14)) :: (us 17 ((.d (.int .i64) (di i14)) :: ((.d (.slice 38) d10) :: ((.d (.int .i64) (di (nI d10.elems.length))) :: ((.d .bool (db (ltI i14 (nI d10.elems.length)))) :: (us 2 ((.d (.slice 38) d10) :: ((.d (.int .i64) (di i14)) :: ((.cptr (.struct [34, 3, 9, 3, 3, 36]) (ix d10.elems i14.toNat)) :: ((.cptr (.int .i64) ((ix d10.elems i14.toNat).at 0)) :: ((.d (.int .i64) ((ix d10.elems i14.toNat).at 0)) :: ((.d .bool (db (eqI ((ix d10.elems i14.toNat).at 0).i 7))) :: ((.d (.slice 38) d10) :: ((.d (.int .i64) (di i14)) :: ((.cptr (.struct [34, 3, 9, 3, 3, 36]) (ix d10.elems i14.toNat)) :: ((.cptr (.int .i64) ((ix d10.elems i14.toNat).at 3)) :: ((.d (.int .i64) ((ix d10.elems i14.toNat).at 3)) :: ((.d (.int .i64) d12) :: ((.d .bool (db (leI ((ix d10.elems i14.toNat).at 3).i d12.i))) :: ((.d (.slice 38) d10) :: ((.d (.int .i64) (di i14)) :: ((.cptr (.struct [34, 3, 9, 3, 3, 36]) (ix d10.elems i14.toNat)) :: ((.cptr (.int .i64) ((ix d10.elems i14.toNat).at 3)) :: ((.d (.int .i64) ((ix d10.elems i14.toNat).at 3)) :: ((.d (.slice 38) d10) :: ((.d (.int .i64) (di i14)) :: ((.cptr (.struct [34, 3, 9, 3, 3, 36]) (ix d10.elems i14.toNat)) :: ((.cptr (.int .i64) ((ix d10.elems i14.toNat).at 0)) :: ((.d (.int .i64) ((ix d10.elems i14.toNat).at 0)) :: ((.d .bool (db (eqI ((ix d10.elems i14.toNat).at 0).i 0))) :: (us 13 ((.d (.slice 38) d10) :: ((.d (.int .i64) (di i14)) :: ((.cptr (.struct [34, 3, 9, 3, 3, 36]) (ix d10.elems i14.toNat)) :: ((.cptr (.int .i64) ((ix d10.elems i14.toNat).at 0)) :: ((.d (.int .i64) ((ix d10.elems i14.toNat).at 0)) :: ((.d .bool (db (neI ((ix d10.elems i14.toNat).at 0).i 7))) :: ((.d .bool (db true)) :: ((.d (.slice 38) d10) :: ((.d (.int .i64) (di i14)) :: ((.cptr (.struct [34, 3, 9, 3, 3, 36]) (ix d10.elems i14.toNat)) :: ((.cptr (.int .i64) ((ix d10.elems i14.toNat).at 1)) :: ((.d (.int .i64) ((ix d10.elems i14.toNat).at 1)) :: ((.d (.int .i64) d13) :: ((.d .bool (db (gtI ((ix d10.elems i14.toNat).at 1).i d13.i))) :: ((.d .bool (db (gtI ((ix d10.elems i14.toNat).at 1).i d13.i))) :: (us 13 []))))))))))))))))))))))))))))))))))))))))))))))))))))))))) [(.var (.struct [25, 3, 3]) (.d (.struct [25, 3, 3]) d15))]
  | .e d10 d11 d12 d13 i14 d15 => k .ret ((.d (.slice 38) d10) :: (us 1 ((.d .bool (db false)) :: ((.d .bool d11) :: (us 1 ((.ptr 0 [] (.struct [25, 3, 3])) :: (us 2 ((.d (.int .i64) d12) :: ((.d (.int .i64) d13) :: ((.d (.int .i64) (di i14)) :: (us 17 ((.d (.int .i64) (di i14)) :: ((.d (.slice 38) d10) :: ((.d (.int .i64) (di (nI d10.elems.length))) :: ((.d .bool (db (ltI i14 (nI d10.elems.length)))) :: (us 2 ((.d (.slice 38) d10) :: ((.d (.int .i64) (di i14)) :: ((.cptr (.struct [34, 3, 9, 3, 3, 36]) (ix d10.elems i14.toNat)) :: ((.cptr (.int .i64) ((ix d10.elems i14.toNat).at 0)) :: ((.d (.int .i64) ((ix d10.elems i14.toNat).at 0)) :: ((.d .bool (db (eqI ((ix d10.elems i14.toNat).at 0).i 7))) :: (us 12 ((.d (.slice 38) d10) :: ((.d (.int .i64) (di i14)) :: ((.cptr (.struct [34, 3, 9, 3, 3, 36]) (ix d10.elems i14.toNat)) :: ((.cptr (.int .i64) ((ix d10.elems i14.toNat).at 0)) :: ((.d (.int .i64) ((ix d10.elems i14.toNat).at 0)) :: ((.d .bool (db (eqI ((ix d10.elems i14.toNat).at 0).i 0))) :: ((.d (.slice 38) d10) :: ((.d (.int .i64) (di i14)) :: ((.cptr (.struct [34, 3, 9, 3, 3, 36]) (ix d10.elems i14.toNat)) :: ((.cptr (.int .i64) ((ix d10.elems i14.toNat).at 1)) :: ((.d (.int .i64) ((ix d10.elems i14.toNat).at 1)) :: ((.d (.int .i64) d13) :: ((.d (.int .i64) (di (ad .i64 d13.i 1))) :: ((.d .bool (db (neI ((ix d10.elems i14.toNat).at 1).i (ad .i64 d13.i 1)))) :: (us 33 [])))))))))))))))))))))))))))))))))))))) [(.var (.struct [25, 3, 3]) (.d (.struct [25, 3, 3]) d15))]
  | .e5 d10 d11 d12 d13 i14 d15 => k .ret ((.d (.slice 38) d10) :: (us 1 ((.d .bool (db false)) :: ((.d .bool d11) :: (us 1 ((.ptr 0 [] (.struct [25, 3, 3])) :: (us 2 ((.d (.int .i64) d12) :: ((.d (.int .i64) ((ix d10.elems i14.toNat).at 1)) :: ((.d (.int .i64) (di i14)) :: (us 17 ((.d (.int .i64) (di i14)) :: ((.d (.slice 38) d10) :: ((.d (.int .i64) (di (nI d10.elems.length))) :: ((.d .bool (db (ltI i14 (nI d10.elems.length)))) :: (us 2 ((.d (.slice 38) d10) :: ((.d (.int .i64) (di i14)) :: ((.cptr (.struct [34, 3, 9, 3, 3, 36]) (ix d10.elems i14.toNat)) :: ((.cptr (.int .i64) ((ix d10.elems i14.toNat).at 0)) :: ((.d (.int .i64) ((ix d10.elems i14.toNat).at 0)) :: ((.d .bool (db (eqI ((ix d10.elems i14.toNat).at 0).i 7))) :: (us 12 ((.d (.slice 38) d10) :: ((.d (.int .i64) (di i14)) :: ((.cptr (.struct [34, 3, 9, 3, 3, 36]) (ix d10.elems i14.toNat)) :: ((.cptr (.int .i64) ((ix d10.elems i14.toNat).at 0)) :: ((.d (.int .i64) ((ix d10.elems i14.toNat).at 0)) :: ((.d .bool (db (eqI ((ix d10.elems i14.toNat).at 0).i 0))) :: ((.d (.slice 38) d10) :: ((.d (.int .i64) (di i14)) :: ((.cptr (.struct [34, 3, 9, 3, 3, 36]) (ix d10.elems i14.toNat)) :: ((.cptr (.int .i64) ((ix d10.elems i14.toNat).at 1)) :: ((.d (.int .i64) ((ix d10.elems i14.toNat).at 1)) :: ((.d (.int .i64) d13) :: ((.d (.int .i64) (di (ad .i64 d13.i 1))) :: ((.d .bool (db (neI ((ix d10.elems i14.toNat).at 1).i (ad .i64 d13.i 1)))) :: ((.d (.slice 38) d10) :: ((.d (.int .i64) (di i14)) :: ((.cptr (.struct [34, 3, 9, 3, 3, 36]) (ix d10.elems i14.toNat)) :: ((.cptr (.int .i64) ((ix d10.elems i14.toNat).at 1)) :: ((.d (.int .i64) ((ix d10.elems i14.toNat).at 1)) :: ((.d (.slice 38) d10) :: ((.d (.int .i64) (di i14)) :: ((.cptr (.struct [34, 3, 9, 3, 3, 36]) (ix d10.elems i14.toNat)) :: ((.cptr (.int .i64) ((ix d10.elems i14.toNat).at 0)) :: ((.d (.int .i64) ((ix d10.elems i14.toNat).at 0)) :: ((.d .bool (db (neI ((ix d10.elems i14.toNat).at 0).i 7))) :: ((.d .bool (db true)) :: ((.d (.slice 38) d10) :: ((.d (.int .i64) (di i14)) :: ((.cptr (.struct [34, 3, 9, 3, 3, 36]) (ix d10.elems i14.toNat)) :: ((.cptr (.int .i64) ((ix d10.elems i14.toNat).at 1)) :: ((.d (.int .i64) ((ix d10.elems i14.toNat).at 1)) :: ((.d (.int .i64) ((ix d10.elems i14.toNat).at 1)) :: ((.d .bool (db (gtI ((ix d10.elems i14.toNat).at 1).i ((ix d10.elems i14.toNat).at 1).i))) :: ((.d .bool (db (gtI ((ix d10.elems i14.toNat).at 1).i ((ix d10.elems i14.toNat).at 1).i))) :: (us 13 [])))))))))))))))))))))))))))))))))))))))))))))))))))))))))) [(.var (.struct [25, 3, 3]) (.d (.struct [25, 3, 3]) d15))]
  | .e6 d10 d11 d12 d13 i14 d15 => k .ret ((.d (.slice 38) d10) :: (us 1 ((.d .bool (db false)) :: ((.d .bool d11) :: (us 1 ((.ptr 0 [] (.struct [25, 3, 3])) :: (us 2 ((.d (.int .i64) d12) :: ((.d (.int .i64) d13) :: ((.d (.int .i64) (di i14)) :: (us 17 ((.d (.int .i64) (di i14)) :: ((.d (.slice 38) d10) :: ((.d (.int .i64) (di (nI d10.elems.length))) :: ((.d .bool (db (ltI i14 (nI d10.elems.length)))) :: (us 2 ((.d (.slice 38) d10) :: ((.d (.int .i64) (di i14)) :: ((.cptr (.struct [34, 3, 9, 3, 3, 36]) (ix d10.elems i14.toNat)) :: ((.cptr (.int .i64) ((ix d10.elems i14.toNat).at 0)) :: ((.d (.int .i64) ((ix d10.elems i14.toNat).at 0)) :: ((.d .bool (db (eqI ((ix d10.elems i14.toNat).at 0).i 7))) :: (us 12 ((.d (.slice 38) d10) :: ((.d (.int .i64) (di i14)) :: ((.cptr (.struct [34, 3, 9, 3, 3, 36]) (ix d10.elems i14.toNat)) :: ((.cptr (.int .i64) ((ix d10.elems i14.toNat).at 0)) :: ((.d (.int .i64) ((ix d10.elems i14.toNat).at 0)) :: ((.d .bool (db (eqI ((ix d10.elems i14.toNat).at 0).i 0))) :: (us 13 ((.d (.slice 38) d10) :: ((.d (.int .i64) (di i14)) :: ((.cptr (.struct [34, 3, 9, 3, 3, 36]) (ix d10.elems i14.toNat)) :: ((.cptr (.int .i64) ((ix d10.elems i14.toNat).at 0)) :: ((.d (.int .i64) ((ix d10.elems i14.toNat).at 0)) :: ((.d .bool (db (neI ((ix d10.elems i14.toNat).at 0).i 7))) :: ((.d .bool (db true)) :: ((.d (.slice 38) d10) :: ((.d (.int .i64) (di i14)) :: ((.cptr (.struct [34, 3, 9, 3, 3, 36]) (ix d10.elems i14.toNat)) :: ((.cptr (.int .i64) ((ix d10.elems i14.toNat).at 1)) :: ((.d (.int .i64) ((ix d10.elems i14.toNat).at 1)) :: ((.d (.int .i64) d13) :: ((.d .bool (db (gtI ((ix d10.elems i14.toNat).at 1).i d13.i))) :: ((.d .bool (db (gtI ((ix d10.elems i14.toNat).at 1).i d13.i))) :: (us 13 [])))))))))))))))))))))))))))))))))))))))))))))) [(.var (.struct [25, 3, 3]) (.d (.struct [25, 3, 3]) d15))]
  | .e7 d10 d11 d12 d13 i14 d15 => k (.exit 0) ((.d (.slice 38) d10) :: (us 2 ((.d .bool d11) :: (us 1 ((.ptr 0 [] (.struct [25, 3, 3])) :: (us 2 ((.d (.int .i64) d12) :: ((.d (.int .i64) d13) :: ((.d (.int .i64) (di i14)) :: (us 17 ((.d (.int .i64) (di i14)) :: ((.d (.slice 38) d10) :: ((.d (.int .i64) (di (nI d10.elems.length))) :: ((.d .bool (db (ltI i14 (nI d10.elems.length)))) :: (us 67 []))))))))))))))) [(.var (.struct [25, 3, 3]) (.d (.struct [25, 3, 3]) d15))]
def ps13 : List PV := ((.d (.slice 38) .x) :: (up 2 ((.d .bool .x) :: (up 1 ((.ptr 0 [] (.struct [25, 3, 3])) :: (up 2 ((.d (.int .i64) .x) :: ((.d (.int .i64) .x) :: ((.d (.int .i64) (.int .i64)) :: (up 88 []))))))))))
def qs13 : List PO := [(.var (.struct [25, 3, 3]) (.d (.struct [25, 3, 3]) .x))]
noncomputable def sum13 (M : Nat) : Sum := sumS [0, 3, 5, 8, 9, 10] ps13 qs13 [] of13 (st13 M) ex13 M
theorem sok13 (M : Nat) : SumOk (e M) (call (e M) 5) 4 0 (loopAt (e M) 4 13) (sum13 M) :=
  sumOk_st (T := tblOf (t4_0 M)) (n0 := 1) (lv := lv13) (t4_0_ok M) (by kernel_rfl) rfl (by intro ls s h; unfold of13 at h; split at h <;> simp at h; subst h; rfl) (by intro s; kernel_rfl) (by intro s; kernel_rfl) (by intro s nx k; kernel_rfl)
noncomputable def t4_1 (M : Nat) : List Ent := ⟨4, 5, 0, 13, sum13 M⟩ :: t4_0 M
theorem t4_1_ok (M : Nat) : AllOk (e M) (tblOf (t4_1 M)) := (t4_0_ok M).add ⟨4, 5, 0, 13, sum13 M⟩ (by kernel_rfl) (sok13 M)
def s (M : Nat) (p0 : D) : Option D :=
  (bd (F12.s FUEL) fun r1 => (cond (!r1.b) (some (db false)) (bd (F13.s FUEL p0) fun r2 => (cond (!r2.b) (some r1) (bd (F14.s FUEL p0) fun r3 => (cond (neI (r3.at 1).i 0) (some r1) (goS (st13 M) M ⟨p0, r1, (di 0), (di 0), 0, (r3.at 0)⟩ fun x => match x with | .e0 d10 d11 d12 d13 i14 d15 => (some (db false)) | .e1 d10 d11 d12 d13 i14 d15 => (some (db false)) | .e2 d10 d11 d12 d13 i14 d15 => (some (db false)) | .e3 d10 d11 d12 d13 i14 d15 => (some (db false)) | .e d10 d11 d12 d13 i14 d15 => (some (db false)) | .e5 d10 d11 d12 d13 i14 d15 => (some (db false)) | .e6 d10 d11 d12 d13 i14 d15 => (some (db false)) | .e7 d10 d11 d12 d13 i14 d15 => (cond d11.b (cond (eqI (d15.at 2).i d12.i) (some (db (eqI (d15.at 1).i d13.i))) (some (db false))) (some (db false))))))))))
theorem run (M : Nat) (p0 : D) : callS (e M) (tblOf (t4_1 M)) 6 4 [.d (.slice 38) p0] [] (fun v H => finish ty [4] v H) = s M p0 := by kernel_rfl
noncomputable abbrev t (M : Nat) : List Ent := t4_1 M
theorem t_ok (M : Nat) : AllOk (e M) (tblOf (t M)) := t4_1_ok M
def c : Con := { run := fun ds => match ds with | [p0] => s FUEL p0 | _ => none, fresh := false, plain := true }
theorem fun_at : Tryd.prog.funcs[4]? = some Tryd.f4 := by kernel_rfl
theorem params : Tryd.f4.params.toList.map ty = [(.slice 38)] := by kernel_rfl
theorem results : Tryd.f4.resultTypes.toList = [4] := by kernel_rfl
theorem flat : Tryd.f4.resultTypes.toList.all (fun t => K.flat ty 20 (ty t)) = true := by kernel_rfl
theorem ok : ConOk (4, c) := by
  intro fn hfn
  obtain rfl : Tryd.f4 = fn := Option.some.inj (fun_at.symm.trans hfn)
  refine contract_flat (n := 20) hgl (fun _ => flat) (fun ds r hh0 hr => ?_)
  rw [params] at hh0
  obtain ⟨p0, ds0, rfl, h0, hh1⟩ := hass_cons hh0
  obtain rfl := hass_nil hh1
  refine ⟨e FUEL, DEPTH, tblOf (t FUEL), envOk (allCons F12.ok (allCons F13.ok (allCons F14.ok allNil))) allNil, rfl, t_ok FUEL, ?_⟩
  rw [params, results]
  exact (run FUEL p0).trans hr
end F4
namespace F5
def cons : List (Nat × Con) := [(12, F12.c), (13, F13.c), (14, F14.c)]
def exts : List (Nat × Ext) := []
def h : List (Nat × Nat × Hint) := [(5, 11, { live := [0, 3, 5, 8], rows := [], own := false, inpl := false }), (5, 15, { live := [0, 3, 5, 8, 9, 10], rows := [], own := false, inpl := false })]
noncomputable def e (M : Nat) : Env := env cons exts h M
noncomputable def t5_0 (_ : Nat) : List Ent := []
theorem t5_0_ok (M : Nat) : AllOk (e M) (tblOf (t5_0 M)) := AllOk.nil
structure S15 where
  d8 : D
  d9 : D
  i10 : Int
  i11 : Int
  i12 : Int
  d13 : D
inductive X15 where
  | e0 (d8 : D) (d9 : D) (i10 : Int) (i11 : Int) (i12 : Int) (d13 : D)
  | e1 (d8 : D) (d9 : D) (i10 : Int) (i11 : Int) (i12 : Int) (d13 : D)
  | e2 (d8 : D) (d9 : D) (i10 : Int) (i11 : Int) (i12 : Int) (d13 : D)
  | e3 (d8 : D) (d9 : D) (i10 : Int) (i11 : Int) (i12 : Int) (d13 : D)
def st15 (M : Nat) : S15 → (S15 → Option D) → (X15 → Option D) → Option D
  | ⟨d8, d9, i10, i11, i12, d13⟩, rec, K => (cond (ltI i12 (nI d8.elems.length)) (cond (inb i12 d8.elems.length) (cond (eqI ((ix d8.elems i12.toNat).at 0).i 1) (cond (inb i12 d8.elems.length) (cond (inb i10 (d13.at 0).elems.length) (cond (eqI ((ix d8.elems i12.toNat).at 1).i (((ix (d13.at 0).elems i10.toNat).at 0).at 0).i) (cond (inb i12 d8.elems.length) (cond (inb i12 d8.elems.length) (cond (eqI ((ix d8.elems i12.toNat).at 0).i 2) (cond (inb i12 d8.elems.length) (cond (inb i10 (d13.at 0).elems.length) (cond (eqI ((ix d8.elems i12.toNat).at 1).i (((ix (d13.at 0).elems i10.toNat).at 0).at 0).i) (cond (inb i12 d8.elems.length) (cond (neI ((ix d8.elems i12.toNat).at 4).i (ad .i64 i11 ((ix d8.elems i12.toNat).at 4).i)) (K (.e0 d8 d9 i10 i11 i12 d13)) (rec ⟨d8, d9, i10, (ad .i64 i11 ((ix d8.elems i12.toNat).at 4).i), (ad .i64 i12 1), d13⟩)) none) (rec ⟨d8, d9, i10, (ad .i64 i11 ((ix d8.elems i12.toNat).at 4).i), (ad .i64 i12 1), d13⟩)) none) none) (rec ⟨d8, d9, i10, (ad .i64 i11 ((ix d8.elems i12.toNat).at 4).i), (ad .i64 i12 1), d13⟩)) none) none) (cond (inb i12 d8.elems.length) (cond (eqI ((ix d8.elems i12.toNat).at 0).i 2) (cond (inb i12 d8.elems.length) (cond (inb i10 (d13.at 0).elems.length) (cond (eqI ((ix d8.elems i12.toNat).at 1).i (((ix (d13.at 0).elems i10.toNat).at 0).at 0).i) (cond (inb i12 d8.elems.length) (cond (neI ((ix d8.elems i12.toNat).at 4).i i11) (K (.e1 d8 d9 i10 i11 i12 d13)) (rec ⟨d8, d9, i10, i11, (ad .i64 i12 1), d13⟩)) none) (rec ⟨d8, d9, i10, i11, (ad .i64 i12 1), d13⟩)) none) none) (rec ⟨d8, d9, i10, i11, (ad .i64 i12 1), d13⟩)) none)) none) none) (cond (inb i12 d8.elems.length) (cond (eqI ((ix d8.elems i12.toNat).at 0).i 2) (cond (inb i12 d8.elems.length) (cond (inb i10 (d13.at 0).elems.length) (cond (eqI ((ix d8.elems i12.toNat).at 1).i (((ix (d13.at 0).elems i10.toNat).at 0).at 0).i) (cond (inb i12 d8.elems.length) (cond (neI ((ix d8.elems i12.toNat).at 4).i i11) (K (.e2 d8 d9 i10 i11 i12 d13)) (rec ⟨d8, d9, i10, i11, (ad .i64 i12 1), d13⟩)) none) (rec ⟨d8, d9, i10, i11, (ad .i64 i12 1), d13⟩)) none) none) (rec ⟨d8, d9, i10, i11, (ad .i64 i12 1), d13⟩)) none)) none) (K (.e3 d8 d9 i10 i11 i12 d13)))
def lv15 : S15 → List Leaf
  | ⟨d8, d9, i10, i11, i12, d13⟩ => [.d d8, .d d9, .i i10, .i i11, .i i12, .d d13]
def of15 : List Leaf → Option S15
  | [.d d8, .d d9, .i i10, .i i11, .i i12, .d d13] => some ⟨d8, d9, i10, i11, i12, d13⟩
  | _ => none
def ex15 (k : Kont) : X15 → Option D
  | .e0 d8 d9 i10 i11 i12 d13 => k .ret ((.d (.slice 38) d8) :: (us 1 ((.d .bool (db false)) :: ((.d .bool d9) :: (us 1 ((.ptr 0 [] (.struct [25, 3, 3])) :: (us 2 ((.d (.int .i64) (di i10)) :: ((.d (.int .i64) (di (ad .i64 i11 ((ix d8.elems i12.toNat).at 4).i))) :: ((.d (.int .i64) (di i12)) :: (us 24 ((.d (.int .i64) (di i12)) :: ((.d (.slice 38) d8) :: ((.d (.int .i64) (di (nI d8.elems.length))) :: ((.d .bool (db (ltI i12 (nI d8.elems.length)))) :: (us 2 ((.d (.slice 38) d8) :: ((.d (.int .i64) (di i12)) :: ((.cptr (.struct [34, 3, 9, 3, 3, 36]) (ix d8.elems i12.toNat)) :: ((.cptr (.int .i64) ((ix d8.elems i12.toNat).at 0)) :: ((.d (.int .i64) ((ix d8.elems i12.toNat).at 0)) :: ((.d .bool (db (eqI ((ix d8.elems i12.toNat).at 0).i 1))) :: ((.d .bool (db true)) :: ((.d (.slice 38) d8) :: ((.d (.int .i64) (di i12)) :: ((.cptr (.struct [34, 3, 9, 3, 3, 36]) (ix d8.elems i12.toNat)) :: ((.cptr (.int .i64) ((ix d8.elems i12.toNat).at 1)) :: ((.d (.int .i64) ((ix d8.elems i12.toNat).at 1)) :: ((.ptr 0 [0] (.slice 44)) :: ((.d (.slice 44) (d13.at 0)) :: ((.d (.int .i64) (di i10)) :: ((.cptr (.struct [42, 3, 36]) (ix (d13.at 0).elems i10.toNat)) :: ((.cptr (.struct [3, 9, 9, 4, 3, 40]) ((ix (d13.at 0).elems i10.toNat).at 0)) :: ((.cptr (.int .i64) (((ix (d13.at 0).elems i10.toNat).at 0).at 0)) :: ((.d (.int .i64) (((ix (d13.at 0).elems i10.toNat).at 0).at 0)) :: ((.d .bool (db (eqI ((ix d8.elems i12.toNat).at 1).i (((ix (d13.at 0).elems i10.toNat).at 0).at 0).i))) :: ((.d .bool (db (eqI ((ix d8.elems i12.toNat).at 1).i (((ix (d13.at 0).elems i10.toNat).at 0).at 0).i))) :: ((.d (.int .i64) (di i11)) :: ((.d (.slice 38) d8) :: ((.d (.int .i64) (di i12)) :: ((.cptr (.struct [34, 3, 9, 3, 3, 36]) (ix d8.elems i12.toNat)) :: ((.cptr (.int .i64) ((ix d8.elems i12.toNat).at 4)) :: ((.d (.int .i64) ((ix d8.elems i12.toNat).at 4)) :: ((.d (.int .i64) (di (ad .i64 i11 ((ix d8.elems i12.toNat).at 4).i))) :: ((.d (.slice 38) d8) :: ((.d (.int .i64) (di i12)) :: ((.cptr (.struct [34, 3, 9, 3, 3, 36]) (ix d8.elems i12.toNat)) :: ((.cptr (.int .i64) ((ix d8.elems i12.toNat).at 0)) :: ((.d (.int .i64) ((ix d8.elems i12.toNat).at 0)) :: ((.d .bool (db (eqI ((ix d8.elems i12.toNat).at 0).i 2))) :: ((.d .bool (db true)) :: ((.d (.slice 38) d8) :: ((.d (.int .i64) (di i12)) :: ((.cptr (.struct [34, 3, 9, 3, 3, 36]) (ix d8.elems i12.toNat)) :: ((.cptr (.int .i64) ((ix d8.elems i12.toNat).at 1)) :: ((.d (.int .i64) ((ix d8.elems i12.toNat).at 1)) :: ((.ptr 0 [0] (.slice 44)) :: ((.d (.slice 44) (d13.at 0)) :: ((.d (.int .i64) (di i10)) :: ((.cptr (.struct [42, 3, 36]) (ix (d13.at 0).elems i10.toNat)) :: ((.cptr (.struct [3, 9, 9, 4, 3, 40]) ((ix (d13.at 0).elems i10.toNat).at 0)) :: ((.cptr (.int .i64) (((ix (d13.at 0).elems i10.toNat).at 0).at 0)) :: ((.d (.int .i64) (((ix (d13.at 0).elems i10.toNat).at 0).at 0)) :: ((.d .bool (db (eqI ((ix d8.elems i12.toNat).at 1).i (((ix (d13.at 0).elems i10.toNat).at 0).at 0).i))) :: ((.d .bool (db (eqI ((ix d8.elems i12.toNat).at 1).i (((ix (d13.at 0).elems i10.toNat).at 0).at 0).i))) :: ((.d .bool (db true)) :: ((.d (.slice 38) d8) :: ((.d (.int .i64) (di i12)) :: ((.cptr (.struct [34, 3, 9, 3, 3, 36]) (ix d8.elems i12.toNat)) :: ((.cptr (.int .i64) ((ix d8.elems i12.toNat).at 4)) :: ((.d (.int .i64) ((ix d8.elems i12.toNat).at 4)) :: ((.d (.int .i64) (di (ad .i64 i11 ((ix d8.elems i12.toNat).at 4).i))) :: ((.d .bool (db (neI ((ix d8.elems i12.toNat).at 4).i (ad .i64 i11 ((ix d8.elems i12.toNat).at 4).i)))) :: ((.d .bool (db (neI ((ix d8.elems i12.toNat).at 4).i (ad .i64 i11 ((ix d8.elems i12.toNat).at 4).i)))) :: (us 9 []))))))))))))))))))))))))))))))))))))))))))))))))))))))))))))))))))))))))))) [(.var (.struct [25, 3, 3]) (.d (.struct [25, 3, 3]) d13))]
  | .e1 d8 d9 i10 i11 i12 d13 => k .ret ((.d (.slice 38) d8) :: (us 1 ((.d .bool (db false)) :: ((.d .bool d9) :: (us 1 ((.ptr 0 [] (.struct [25, 3, 3])) :: (us 2 ((.d (.int .i64) (di i10)) :: ((.d (.int .i64) (di i11)) :: ((.d (.int .i64) (di i12)) :: (us 24 ((.d (.int .i64) (di i12)) :: ((.d (.slice 38) d8) :: ((.d (.int .i64) (di (nI d8.elems.length))) :: ((.d .bool (db (ltI i12 (nI d8.elems.length)))) :: (us 2 ((.d (.slice 38) d8) :: ((.d (.int .i64) (di i12)) :: ((.cptr (.struct [34, 3, 9, 3, 3, 36]) (ix d8.elems i12.toNat)) :: ((.cptr (.int .i64) ((ix d8.elems i12.toNat).at 0)) :: ((.d (.int .i64) ((ix d8.elems i12.toNat).at 0)) :: ((.d .bool (db (eqI ((ix d8.elems i12.toNat).at 0).i 1))) :: ((.d .bool (db true)) :: ((.d (.slice 38) d8) :: ((.d (.int .i64) (di i12)) :: ((.cptr (.struct [34, 3, 9, 3, 3, 36]) (ix d8.elems i12.toNat)) :: ((.cptr (.int .i64) ((ix d8.elems i12.toNat).at 1)) :: ((.d (.int .i64) ((ix d8.elems i12.toNat).at 1)) :: ((.ptr 0 [0] (.slice 44)) :: ((.d (.slice 44) (d13.at 0)) :: ((.d (.int .i64) (di i10)) :: ((.cptr (.struct [42, 3, 36]) (ix (d13.at 0).elems i10.toNat)) :: ((.cptr (.struct [3, 9, 9, 4, 3, 40]) ((ix (d13.at 0).elems i10.toNat).at 0)) :: ((.cptr (.int .i64) (((ix (d13.at 0).elems i10.toNat).at 0).at 0)) :: ((.d (.int .i64) (((ix (d13.at 0).elems i10.toNat).at 0).at 0)) :: ((.d .bool (db (eqI ((ix d8.elems i12.toNat).at 1).i (((ix (d13.at 0).elems i10.toNat).at 0).at 0).i))) :: ((.d .bool (db (eqI ((ix d8.elems i12.toNat).at 1).i (((ix (d13.at 0).elems i10.toNat).at 0).at 0).i))) :: (us 7 ((.d (.slice 38) d8) :: ((.d (.int .i64) (di i12)) :: ((.cptr (.struct [34, 3, 9, 3, 3, 36]) (ix d8.elems i12.toNat)) :: ((.cptr (.int .i64) ((ix d8.elems i12.toNat).at 0)) :: ((.d (.int .i64) ((ix d8.elems i12.toNat).at 0)) :: ((.d .bool (db (eqI ((ix d8.elems i12.toNat).at 0).i 2))) :: ((.d .bool (db true)) :: ((.d (.slice 38) d8) :: ((.d (.int .i64) (di i12)) :: ((.cptr (.struct [34, 3, 9, 3, 3, 36]) (ix d8.elems i12.toNat)) :: ((.cptr (.int .i64) ((ix d8.elems i12.toNat).at 1)) :: ((.d (.int .i64) ((ix d8.elems i12.toNat).at 1)) :: ((.ptr 0 [0] (.slice 44)) :: ((.d (.slice 44) (d13.at 0)) :: ((.d (.int .i64) (di i10)) :: ((.cptr (.struct [42, 3, 36]) (ix (d13.at 0).elems i10.toNat)) :: ((.cptr (.struct [3, 9, 9, 4, 3, 40]) ((ix (d13.at 0).elems i10.toNat).at 0)) :: ((.cptr (.int .i64) (((ix (d13.at 0).elems i10.toNat).at 0).at 0)) :: ((.d (.int .i64) (((ix (d13.at 0).elems i10.toNat).at 0).at 0)) :: ((.d .bool (db (eqI ((ix d8.elems i12.toNat).at 1).i (((ix (d13.at 0).elems i10.toNat).at 0).at 0).i))) :: ((.d .bool (db (eqI ((ix d8.elems i12.toNat).at 1).i (((ix (d13.at 0).elems i10.toNat).at 0).at 0).i))) :: ((.d .bool (db true)) :: ((.d (.slice 38) d8) :: ((.d (.int .i64) (di i12)) :: ((.cptr (.struct [34, 3, 9, 3, 3, 36]) (ix d8.elems i12.toNat)) :: ((.cptr (.int .i64) ((ix d8.elems i12.toNat).at 4)) :: ((.d (.int .i64) ((ix d8.elems i12.toNat).at 4)) :: ((.d (.int .i64) (di i11)) :: ((.d .bool (db (neI ((ix d8.elems i12.toNat).at 4).i i11))) :: ((.d .bool (db (neI ((ix d8.elems i12.toNat).at 4).i i11))) :: (us 9 []))))))))))))))))))))))))))))))))))))))))))))))))))))))))))))))))))))) [(.var (.struct [25, 3, 3]) (.d (.struct [25, 3, 3]) d13))]
  | .e2 d8 d9 i10 i11 i12 d13 => k .ret ((.d (.slice 38) d8) :: (us 1 ((.d .bool (db false)) :: ((.d .bool d9) :: (us 1 ((.ptr 0 [] (.struct [25, 3, 3])) :: (us 2 ((.d (.int .i64) (di i10)) :: ((.d (.int .i64) (di i11)) :: ((.d (.int .i64) (di i12)) :: (us 24 ((.d (.int .i64) (di i12)) :: ((.d (.slice 38) d8) :: ((.d (.int .i64) (di (nI d8.elems.length))) :: ((.d .bool (db (ltI i12 (nI d8.elems.length)))) :: (us 2 ((.d (.slice 38) d8) :: ((.d (.int .i64) (di i12)) :: ((.cptr (.struct [34, 3, 9, 3, 3, 36]) (ix d8.elems i12.toNat)) :: ((.cptr (.int .i64) ((ix d8.elems i12.toNat).at 0)) :: ((.d (.int .i64) ((ix d8.elems i12.toNat).at 0)) :: ((.d .bool (db (eqI ((ix d8.elems i12.toNat).at 0).i 1))) :: ((.d .bool (db false)) :: ((.tup []) :: ((.tup []) :: ((.tup []) :: ((.tup []) :: ((.tup []) :: ((.tup []) :: ((.tup []) :: ((.tup []) :: ((.tup []) :: ((.tup []) :: ((.tup []) :: ((.tup []) :: ((.tup []) :: ((.d .bool (db false)) :: (us 7 ((.d (.slice 38) d8) :: ((.d (.int .i64) (di i12)) :: ((.cptr (.struct [34, 3, 9, 3, 3, 36]) (ix d8.elems i12.toNat)) :: ((.cptr (.int .i64) ((ix d8.elems i12.toNat).at 0)) :: ((.d (.int .i64) ((ix d8.elems i12.toNat).at 0)) :: ((.d .bool (db (eqI ((ix d8.elems i12.toNat).at 0).i 2))) :: ((.d .bool (db true)) :: ((.d (.slice 38) d8) :: ((.d (.int .i64) (di i12)) :: ((.cptr (.struct [34, 3, 9, 3, 3, 36]) (ix d8.elems i12.toNat)) :: ((.cptr (.int .i64) ((ix d8.elems i12.toNat).at 1)) :: ((.d (.int .i64) ((ix d8.elems i12.toNat).at 1)) :: ((.ptr 0 [0] (.slice 44)) :: ((.d (.slice 44) (d13.at 0)) :: ((.d (.int .i64) (di i10)) :: ((.cptr (.struct [42, 3, 36]) (ix (d13.at 0).elems i10.toNat)) :: ((.cptr (.struct [3, 9, 9, 4, 3, 40]) ((ix (d13.at 0).elems i10.toNat).at 0)) :: ((.cptr (.int .i64) (((ix (d13.at 0).elems i10.toNat).at 0).at 0)) :: ((.d (.int .i64) (((ix (d13.at 0).elems i10.toNat).at 0).at 0)) :: ((.d .bool (db (eqI ((ix d8.elems i12.toNat).at 1).i (((ix (d13.at 0).elems i10.toNat).at 0).at 0).i))) :: ((.d .bool (db (eqI ((ix d8.elems i12.toNat).at 1).i (((ix (d13.at 0).elems i10.toNat).at 0).at 0).i))) :: ((.d .bool (db true)) :: ((.d (.slice 38) d8) :: ((.d (.int .i64) (di i12)) :: ((.cptr (.struct [34, 3, 9, 3, 3, 36]) (ix d8.elems i12.toNat)) :: ((.cptr (.int .i64) ((ix d8.elems i12.toNat).at 4)) :: ((.d (.int .i64) ((ix d8.elems i12.toNat).at 4)) :: ((.d (.int .i64) (di i11)) :: ((.d .bool (db (neI ((ix d8.elems i12.toNat).at 4).i i11))) :: ((.d .bool (db (neI ((ix d8.elems i12.toNat).at 4).i i11))) :: (us 9 []))))))))))))))))))))))))))))))))))))))))))))))))))))))))))))))))))))) [(.var (.struct [25, 3, 3]) (.d (.struct [25, 3, 3]) d13))]
  | .e3 d8 d9 i10 i11 i12 d13 => k (.exit 2) ((.d (.slice 38) d8) :: (us 2 ((.d .bool d9) :: (us 1 ((.ptr 0 [] (.struct [25, 3, 3])) :: (us 2 ((.d (.int .i64) (di i10)) :: ((.d (.int .i64) (di i11)) :: ((.d (.int .i64) (di i12)) :: (us 24 ((.d (.int .i64) (di i12)) :: ((.d (.slice 38) d8) :: ((.d (.int .i64) (di (nI d8.elems.length))) :: ((.d .bool (db (ltI i12 (nI d8.elems.length)))) :: (us 69 []))))))))))))))) [(.var (.struct [25, 3, 3]) (.d (.struct [25, 3, 3]) d13))]
def ps15 : List PV := ((.d (.slice 38) .x) :: (up 2 ((.d .bool .x) :: (up 1 ((.ptr 0 [] (.struct [25, 3, 3])) :: (up 2 ((.d (.int .i64) (.int .i64)) :: ((.d (.int .i64) (.int .i64)) :: ((.d (.int .i64) (.int .i64)) :: (up 97 []))))))))))
def qs15 : List PO := [(.var (.struct [25, 3, 3]) (.d (.struct [25, 3, 3]) .x))]
noncomputable def sum15 (M : Nat) : Sum := sumS [0, 3, 5, 8, 9, 10] ps15 qs15 [] of15 (st15 M) ex15 M
theorem sok15 (M : Nat) : SumOk (e M) (call (e M) 5) 5 0 (loopAt (e M) 5 15) (sum15 M) :=
  sumOk_st (T := tblOf (t5_0 M)) (n0 := 1) (lv := lv15) (t5_0_ok M) (by kernel_rfl) rfl (by intro ls s h; unfold of15 at h; split at h <;> simp at h; subst h; rfl) (by intro s; kernel_rfl) (by intro s; kernel_rfl) (by intro s nx k; kernel_rfl)
noncomputable def t5_1 (M : Nat) : List Ent := ⟨5, 5, 0, 15, sum15 M⟩ :: t5_0 M
theorem t5_1_ok (M : Nat) : AllOk (e M) (tblOf (t5_1 M)) := (t5_0_ok M).add ⟨5, 5, 0, 15, sum15 M⟩ (by kernel_rfl) (sok15 M)
structure S11 where
  d4 : D
  d5 : D
  i6 : Int
  d7 : D
inductive X11 where
  | e0 (d8 : D) (d9 : D) (i10 : Int) (i11 : Int) (i12 : Int) (d13 : D)
  | e1 (d8 : D) (d9 : D) (i10 : Int) (i11 : Int) (i12 : Int) (d13 : D)
  | e2 (d8 : D) (d9 : D) (i10 : Int) (i11 : Int) (i12 : Int) (d13 : D)
  | e3 (d8 : D) (d9 : D) (i10 : Int) (i11 : Int) (i12 : Int) (d13 : D)
  | e4 (d4 : D) (d5 : D) (i6 : Int) (d7 : D)
def st11 (M : Nat) : S11 → (S11 → Option D) → (X11 → Option D) → Option D
  | ⟨d4, d5, i6, d7⟩, rec, K => (cond (ltI i6 (nI (d7.at 0).elems.length)) (goS (st15 M) M ⟨d4, d5, i6, 0, 0, d7⟩ fun x => match x with | .e0 d8 d9 i10 i11 i12 d13 => (K (.e0 d8 d9 i10 i11 i12 d13)) | .e1 d8 d9 i10 i11 i12 d13 => (K (.e1 d8 d9 i10 i11 i12 d13)) | .e2 d8 d9 i10 i11 i12 d13 => (K (.e2 d8 d9 i10 i11 i12 d13)) | .e3 d8 d9 i10 i11 i12 d13 => (cond (inb i10 (d13.at 0).elems.length) (cond (neI ((ix (d13.at 0).elems i10.toNat).at 1).i i11) (K (.e3 d8 d9 i10 i11 i12 d13)) (rec ⟨d8, d9, (ad .i64 i10 1), d13⟩)) none)) (K (.e4 d4 d5 i6 d7)))
def lv11 : S11 → List Leaf
  | ⟨d4, d5, i6, d7⟩ => [.d d4, .d d5, .i i6, .d d7]
def of11 : List Leaf → Option S11
  | [.d d4, .d d5, .i i6, .d d7] => some ⟨d4, d5, i6, d7⟩
  | _ => none
def ex11 (k : Kont) : X11 → Option D
  | .e0 d8 d9 i10 i11 i12 d13 => k .ret ((.d (.slice 38) d8) :: (us 1 ((.d .bool (db false)) :: ((.d .bool d9) :: (us 1 ((.ptr 0 [] (.struct [25, 3, 3])) :: (us 2 ((.d (.int .i64) (di i10)) :: ((.d (.int .i64) (di (ad .i64 i11 ((ix d8.elems i12.toNat).at 4).i))) :: ((.d (.int .i64) (di i12)) :: (us 24 ((.d (.int .i64) (di i12)) :: ((.d (.slice 38) d8) :: ((.d (.int .i64) (di (nI d8.elems.length))) :: ((.d .bool (db (ltI i12 (nI d8.elems.length)))) :: (us 2 ((.d (.slice 38) d8) :: ((.d (.int .i64) (di i12)) :: ((.cptr (.struct [34, 3, 9, 3, 3, 36]) (ix d8.elems i12.toNat)) :: ((.cptr (.int .i64) ((ix d8.elems i12.toNat).at 0)) :: ((.d (.int .i64) ((ix d8.elems i12.toNat).at 0)) :: ((.d .bool (db (eqI ((ix d8.elems i12.toNat).at 0).i 1))) :: ((.d .bool (db true)) :: ((.d (.slice 38) d8) :: ((.d (.int .i64) (di i12)) :: ((.cptr (.struct [34, 3, 9, 3, 3, 36]) (ix d8.elems i12.toNat)) :: ((.cptr (.int .i64) ((ix d8.elems i12.toNat).at 1)) :: ((.d (.int .i64) ((ix d8.elems i12.toNat).at 1)) :: ((.ptr 0 [0] (.slice 44)) :: ((.d (.slice 44) (d13.at 0)) :: ((.d (.int .i64) (di i10)) :: ((.cptr (.struct [42, 3, 36]) (ix (d13.at 0).elems i10.toNat)) :: ((.cptr (.struct [3, 9, 9, 4, 3, 40]) ((ix (d13.at 0).elems i10.toNat).at 0)) :: ((.cptr (.int .i64) (((ix (d13.at 0).elems i10.toNat).at 0).at 0)) :: ((.d (.int .i64) (((ix (d13.at 0).elems i10.toNat).at 0).at 0)) :: ((.d .bool (db (eqI ((ix d8.elems i12.toNat).at 1).i (((ix (d13.at 0).elems i10.toNat).at 0).at 0).i))) :: ((.d .bool (db (eqI ((ix d8.elems i12.toNat).at 1).i (((ix (d13.at 0).elems i10.toNat).at 0).at 0).i))) :: ((.d (.int .i64) (di i11)) :: ((.d (.slice 38) d8) :: ((.d (.int .i64) (di i12)) :: ((.cptr (.struct [34, 3, 9, 3, 3, 36]) (ix d8.elems i12.toNat)) :: ((.cptr (.int .i64) ((ix d8.elems i12.toNat).at 4)) :: ((.d (.int .i64) ((ix d8.elems i12.toNat).at 4)) :: ((.d (.int .i64) (di (ad .i64 i11 ((ix d8.elems i12.toNat).at 4).i))) :: ((.d (.slice 38) d8) :: ((.d (.int .i64) (di i12)) :: ((.cptr (.struct [34, 3, 9, 3, 3, 36]) (ix d8.elems i12.toNat)) :: ((.cptr (.int .i64) ((ix d8.elems i12.toNat).at 0)) :: ((.d (.int .i64) ((ix d8.elems i12.toNat).at 0)) :: ((.d .bool (db (eqI ((ix d8.elems i12.toNat).at 0).i 2))) :: ((.d .bool (db true)) :: ((.d (.slice 38) d8) :: ((.d (.int .i64) (di i12)) :: ((.cptr (.struct [34, 3, 9, 3, 3, 36]) (ix d8.elems i12.toNat)) :: ((.cptr (.int .i64) ((ix d8.elems i12.toNat).at 1)) :: ((.d (.int .i64) ((ix d8.elems i12.toNat).at 1)) :: ((.ptr 0 [0] (.slice 44)) :: ((.d (.slice 44) (d13.at 0)) :: ((.d (.int .i64) (di i10)) :: ((.cptr (.struct [42, 3, 36]) (ix (d13.at 0).elems i10.toNat)) :: ((.cptr (.struct [3, 9, 9, 4, 3, 40]) ((ix (d13.at 0).elems i10.toNat).at 0)) :: ((.cptr (.int .i64) (((ix (d13.at 0).elems i10.toNat).at 0).at 0)) :: ((.d (.int .i64) (((ix (d13.at 0).elems i10.toNat).at 0).at 0)) :: ((.d .bool (db (eqI ((ix d8.elems i12.toNat).at 1).i (((ix (d13.at 0).elems i10.toNat).at 0).at 0).i))) :: ((.d .bool (db (eqI ((ix d8.elems i12.toNat).at 1).i (((ix (d13.at 0).elems i10.toNat).at 0).at 0).i))) :: ((.d .bool (db true)) :: ((.d (.slice 38) d8) :: ((.d (.int .i64) (di i12)) :: ((.cptr (.struct [34, 3, 9, 3, 3, 36]) (ix d8.elems i12.toNat)) :: ((.cptr (.int .i64) ((ix d8.elems i12.toNat).at 4)) :: ((.d (.int .i64) ((ix d8.elems i12.toNat).at 4)) :: ((.d (.int .i64) (di (ad .i64 i11 ((ix d8.elems i12.toNat).at 4).i))) :: ((.d .bool (db (neI ((ix d8.elems i12.toNat).at 4).i (ad .i64 i11 ((ix d8.elems i12.toNat).at 4).i)))) :: ((.d .bool (db (neI ((ix d8.elems i12.toNat).at 4).i (ad .i64 i11 ((ix d8.elems i12.toNat).at 4).i)))) :: (us 9 []))))))))))))))))))))))))))))))))))))))))))))))))))))))))))))))))))))))))))) [(.var (.struct [25, 3, 3]) (.d (.struct [25, 3, 3]) d13))]
  | .e1 d8 d9 i10 i11 i12 d13 => k .ret ((.d (.slice 38) d8) :: (us 1 ((.d .bool (db false)) :: ((.d .bool d9) :: (us 1 ((.ptr 0 [] (.struct [25, 3, 3])) :: (us 2 ((.d (.int .i64) (di i10)) :: ((.d (.int .i64) (di i11)) :: ((.d (.int .i64) (di i12)) :: (us 24 ((.d (.int .i64) (di i12)) :: ((.d (.slice 38) d8) :: ((.d (.int .i64) (di (nI d8.elems.length))) :: ((.d .bool (db (ltI i12 (nI d8.elems.length)))) :: (us 2 ((.d (.slice 38) d8) :: ((.d (.int .i64) (di i12)) :: ((.cptr (.struct [34, 3, 9, 3, 3, 36]) (ix d8.elems i12.toNat)) :: ((.cptr (.int .i64) ((ix d8.elems i12.toNat).at 0)) :: ((.d (.int .i64) ((ix d8.elems i12.toNat).at 0)) :: ((.d .bool (db (eqI ((ix d8.elems i12.toNat).at 0).i 1))) :: ((.d .bool (db true)) :: ((.d (.slice 38) d8) :: ((.d (.int .i64) (di i12)) :: ((.cptr (.struct [34, 3, 9, 3, 3, 36]) (ix d8.elems i12.toNat)) :: ((.cptr (.int .i64) ((ix d8.elems i12.toNat).at 1)) :: ((.d (.int .i64) ((ix d8.elems i12.toNat).at 1)) :: ((.ptr 0 [0] (.slice 44)) :: ((.d (.slice 44) (d13.at 0)) :: ((.d (.int .i64) (di i10)) :: ((.cptr (.struct [42, 3, 36]) (ix (d13.at 0).elems i10.toNat)) :: ((.cptr (.struct [3, 9, 9, 4, 3, 40]) ((ix (d13.at 0).elems i10.toNat).at 0)) :: ((.cptr (.int .i64) (((ix (d13.at 0).elems i10.toNat).at 0).at 0)) :: ((.d (.int .i64) (((ix (d13.at 0).elems i10.toNat).at 0).at 0)) :: ((.d .bool (db (eqI ((ix d8.elems i12.toNat).at 1).i (((ix (d13.at 0).elems i10.toNat).at 0).at 0).i))) :: ((.d .bool (db (eqI ((ix d8.elems i12.toNat).at 1).i (((ix (d13.at 0).elems i10.toNat).at 0).at 0).i))) :: (us 7 ((.d (.slice 38) d8) :: ((.d (.int .i64) (di i12)) :: ((.cptr (.struct [34, 3, 9, 3, 3, 36]) (ix d8.elems i12.toNat)) :: ((.cptr (.int .i64) ((ix d8.elems i12.toNat).at 0)) :: ((.d (.int .i64) ((ix d8.elems i12.toNat).at 0)) :: ((.d .bool (db (eqI ((ix d8.elems i12.toNat).at 0).i 2))) :: ((.d .bool (db true)) :: ((.d (.slice 38) d8) :: ((.d (.int .i64) (di i12)) :: ((.cptr (.struct [34, 3, 9, 3, 3, 36]) (ix d8.elems i12.toNat)) :: ((.cptr (.int .i64) ((ix d8.elems i12.toNat).at 1)) :: ((.d (.int .i64) ((ix d8.elems i12.toNat).at 1)) :: ((.ptr 0 [0] (.slice 44)) :: ((.d (.slice 44) (d13.at 0)) :: ((.d (.int .i64) (di i10)) :: ((.cptr (.struct [42, 3, 36]) (ix (d13.at 0).elems i10.toNat)) :: ((.cptr (.struct [3, 9, 9, 4, 3, 40]) ((ix (d13.at 0).elems i10.toNat).at 0)) :: ((.cptr (.int .i64) (((ix (d13.at 0).elems i10.toNat).at 0).at 0)) :: ((.d (.int .i64) (((ix (d13.at 0).elems i10.toNat).at 0).at 0)) :: ((.d .bool (db (eqI ((ix d8.elems i12.toNat).at 1).i (((ix (d13.at 0).elems i10.toNat).at 0).at 0).i))) :: ((.d .bool (db (eqI ((ix d8.elems i12.toNat).at 1).i (((ix (d13.at 0).elems i10.toNat).at 0).at 0).i))) :: ((.d .bool (db true)) :: ((.d (.slice 38) d8) :: ((.d (.int .i64) (di i12)) :: ((.cptr (.struct [34, 3, 9, 3, 3, 36]) (ix d8.elems i12.toNat)) :: ((.cptr (.int .i64) ((ix d8.elems i12.toNat).at 4)) :: ((.d (.int .i64) ((ix d8.elems i12.toNat).at 4)) :: ((.d (.int .i64) (di i11)) :: ((.d .bool (db (neI ((ix d8.elems i12.toNat).at 4).i i11))) :: ((.d .bool (db (neI ((ix d8.elems i12.toNat).at 4).i i11))) :: (us 9 []))))))))))))))))))))))))))))))))))))))))))))))))))))))))))))))))))))) [(.var (.struct [25, 3, 3]) (.d (.struct [25, 3, 3]) d13))]
  | .e2 d8 d9 i10 i11 i12 d13 => k .ret ((.d (.slice 38) d8) :: (us 1 ((.d .bool (db false)) :: ((.d .bool d9) :: (us 1 ((.ptr 0 [] (.struct [25, 3, 3])) :: (us 2 ((.d (.int .i64) (di i10)) :: ((.d (.int .i64) (di i11)) :: ((.d (.int .i64) (di i12)) :: (us 24 ((.d (.int .i64) (di i12)) :: ((.d (.slice 38) d8) :: ((.d (.int .i64) (di (nI d8.elems.length))) :: ((.d .bool (db (ltI i12 (nI d8.elems.length)))) :: (us 2 ((.d (.slice 38) d8) :: ((.d (.int .i64) (di i12)) :: ((.cptr (.struct [34, 3, 9, 3, 3, 36]) (ix d8.elems i12.toNat)) :: ((.cptr (.int .i64) ((ix d8.elems i12.toNat).at 0)) :: ((.d (.int .i64) ((ix d8.elems i12.toNat).at 0)) :: ((.d .bool (db (eqI ((ix d8.elems i12.toNat).at 0).i 1))) :: ((.d .bool (db false)) :: ((.tup []) :: ((.tup []) :: ((.tup []) :: ((.tup []) :: ((.tup []) :: ((.tup []) :: ((.tup []) :: ((.tup []) :: ((.tup []) :: ((.tup []) :: ((.tup []) :: ((.tup []) :: ((.tup []) :: ((.d .bool (db false)) :: (us 7 ((.d (.slice 38) d8) :: ((.d (.int .i64) (di i12)) :: ((.cptr (.struct [34, 3, 9, 3, 3, 36]) (ix d8.elems i12.toNat)) :: ((.cptr (.int .i64) ((ix d8.elems i12.toNat).at 0)) :: ((.d (.int .i64) ((ix d8.elems i12.toNat).at 0)) :: ((.d .bool (db (eqI ((ix d8.elems i12.toNat).at 0).i 2))) :: ((.d .bool (db true)) :: ((.d (.slice 38) d8) :: ((.d (.int .i64) (di i12)) :: ((.cptr (.struct [34, 3, 9, 3, 3, 36]) (ix d8.elems i12.toNat)) :: ((.cptr (.int .i64) ((ix d8.elems i12.toNat).at 1)) :: ((.d (.int .i64) ((ix d8.elems i12.toNat).at 1)) :: ((.ptr 0 [0] (.slice 44)) :: ((.d (.slice 44) (d13.at 0)) :: ((.d (.int .i64) (di i10)) :: ((.cptr (.struct [42, 3, 36]) (ix (d13.at 0).elems i10.toNat)) :: ((.cptr (.struct [3, 9, 9, 4, 3, 40]) ((ix (d13.at 0).elems i10.toNat).at 0)) :: ((.cptr (.int .i64) (((ix (d13.at 0).elems i10.toNat).at 0).at 0)) :: ((.d (.int .i64) (((ix (d13.at 0).elems i10.toNat).at 0).at 0)) :: ((.d .bool (db (eqI ((ix d8.elems i12.toNat).at 1).i (((ix (d13.at 0).elems i10.toNat).at 0).at 0).i))) :: ((.d .bool (db (eqI ((ix d8.elems i12.toNat).at 1).i (((ix (d13.at 0).elems i10.toNat).at 0).at 0).i))) :: ((.d .bool (db true)) :: ((.d (.slice 38) d8) :: ((.d (.int .i64) (di i12)) :: ((.cptr (.struct [34, 3, 9, 3, 3, 36]) (ix d8.elems i12.toNat)) :: ((.cptr (.int .i64) ((ix d8.elems i12.toNat).at 4)) :: ((.d (.int .i64) ((ix d8.elems i12.toNat).at 4)) :: ((.d (.int .i64) (di i11)) :: ((.d .bool (db (neI ((ix d8.elems i12.toNat).at 4).i i11))) :: ((.d .bool (db (neI ((ix d8.elems i12.toNat).at 4).i i11))) :: (us 9 []))))))))))))))))))))))))))))))))))))))))))))))))))))))))))))))))))))) [(.var (.struct [25, 3, 3]) (.d (.struct [25, 3, 3]) d13))]
  | .e3 d8 d9 i10 i11 i12 d13 => k .ret ((.d (.slice 38) d8) :: (us 1 ((.d .bool (db false)) :: ((.d .bool d9) :: (us 1 ((.ptr 0 [] (.struct [25, 3, 3])) :: (us 2 ((.d (.int .i64) (di i10)) :: ((.d (.int .i64) (di i11)) :: ((.d (.int .i64) (di i12)) :: (us 24 ((.d (.int .i64) (di i12)) :: ((.d (.slice 38) d8) :: ((.d (.int .i64) (di (nI d8.elems.length))) :: ((.d .bool (db (ltI i12 (nI d8.elems.length)))) :: (us 60 ((.ptr 0 [0] (.slice 44)) :: ((.d (.slice 44) (d13.at 0)) :: ((.d (.int .i64) (di i10)) :: ((.cptr (.struct [42, 3, 36]) (ix (d13.at 0).elems i10.toNat)) :: ((.cptr (.int .i64) ((ix (d13.at 0).elems i10.toNat).at 1)) :: ((.d (.int .i64) ((ix (d13.at 0).elems i10.toNat).at 1)) :: ((.d (.int .i64) (di i11)) :: ((.d .bool (db (neI ((ix (d13.at 0).elems i10.toNat).at 1).i i11))) :: (us 1 []))))))))))))))))))))))))) [(.var (.struct [25, 3, 3]) (.d (.struct [25, 3, 3]) d13))]
  | .e4 d4 d5 i6 d7 => k (.exit 0) ((.d (.slice 38) d4) :: (us 2 ((.d .bool d5) :: (us 1 ((.ptr 0 [] (.struct [25, 3, 3])) :: (us 2 ((.d (.int .i64) (di i6)) :: (us 19 ((.d (.int .i64) (di i6)) :: ((.ptr 0 [0] (.slice 44)) :: ((.d (.slice 44) (d7.at 0)) :: ((.d (.int .i64) (di (nI (d7.at 0).elems.length))) :: ((.d .bool (db (ltI i6 (nI (d7.at 0).elems.length)))) :: (us 75 [])))))))))))))) [(.var (.struct [25, 3, 3]) (.d (.struct [25, 3, 3]) d7))]
def ps11 : List PV := ((.d (.slice 38) .x) :: (up 2 ((.d .bool .x) :: (up 1 ((.ptr 0 [] (.struct [25, 3, 3])) :: (up 2 ((.d (.int .i64) (.int .i64)) :: (up 99 []))))))))
def qs11 : List PO := [(.var (.struct [25, 3, 3]) (.d (.struct [25, 3, 3]) .x))]
noncomputable def sum11 (M : Nat) : Sum := sumS [0, 3, 5, 8] ps11 qs11 [] of11 (st11 M) ex11 M
theorem sok11 (M : Nat) : SumOk (e M) (call (e M) 5) 5 0 (loopAt (e M) 5 11) (sum11 M) :=
  sumOk_st (T := tblOf (t5_1 M)) (n0 := 1) (lv := lv11) (t5_1_ok M) (by kernel_rfl) rfl (by intro ls s h; unfold of11 at h; split at h <;> simp at h; subst h; rfl) (by intro s; kernel_rfl) (by intro s; kernel_rfl) (by intro s nx k; kernel_rfl)
noncomputable def t5_2 (M : Nat) : List Ent := ⟨5, 5, 0, 11, sum11 M⟩ :: t5_1 M
theorem t5_2_ok (M : Nat) : AllOk (e M) (tblOf (t5_2 M)) := (t5_1_ok M).add ⟨5, 5, 0, 11, sum11 M⟩ (by kernel_rfl) (sok11 M)
def s (M : Nat) (p0 : D) : Option D :=
  (bd (F12.s FUEL) fun r1 => (cond (!r1.b) (some (db false)) (bd (F13.s FUEL p0) fun r2 => (cond (!r2.b) (some r1) (bd (F14.s FUEL p0) fun r3 => (cond (neI (r3.at 1).i 0) (some r1) (goS (st11 M) M ⟨p0, r1, 0, (r3.at 0)⟩ fun x => match x with | .e0 d8 d9 i10 i11 i12 d13 => (some (db false)) | .e1 d8 d9 i10 i11 i12 d13 => (some (db false)) | .e2 d8 d9 i10 i11 i12 d13 => (some (db false)) | .e3 d8 d9 i10 i11 i12 d13 => (some (db false)) | .e4 d4 d5 i6 d7 => (some d5))))))))
theorem run (M : Nat) (p0 : D) : callS (e M) (tblOf (t5_2 M)) 6 5 [.d (.slice 38) p0] [] (fun v H => finish ty [4] v H) = s M p0 := by kernel_rfl
noncomputable abbrev t (M : Nat) : List Ent := t5_2 M
theorem t_ok (M : Nat) : AllOk (e M) (tblOf (t M)) := t5_2_ok M
def c : Con := { run := fun ds => match ds with | [p0] => s FUEL p0 | _ => none, fresh := false, plain := true }
theorem fun_at : Tryd.prog.funcs[5]? = some Tryd.f5 := by kernel_rfl
theorem params : Tryd.f5.params.toList.map ty = [(.slice 38)] := by kernel_rfl
theorem results : Tryd.f5.resultTypes.toList = [4] := by kernel_rfl
theorem flat : Tryd.f5.resultTypes.toList.all (fun t => K.flat ty 20 (ty t)) = true := by kernel_rfl
theorem ok : ConOk (5, c) := by
  intro fn hfn
  obtain rfl : Tryd.f5 = fn := Option.some.inj (fun_at.symm.trans hfn)
  refine contract_flat (n := 20) hgl (fun _ => flat) (fun ds r hh0 hr => ?_)
  rw [params] at hh0
  obtain ⟨p0, ds0, rfl, h0, hh1⟩ := hass_cons hh0
  obtain rfl := hass_nil hh1
  refine ⟨e FUEL, DEPTH, tblOf (t FUEL), envOk (allCons F12.ok (allCons F13.ok (allCons F14.ok allNil))) allNil, rfl, t_ok FUEL, ?_⟩
  rw [params, results]
  exact (run FUEL p0).trans hr
end F5
end Go.AM.SD
