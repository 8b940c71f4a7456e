/- Part 14 of the proof: the abstract machine, what the functions compute, and plain laws over that. -/
import Derived.Test.YtonknblidjpfeaaDoorMd13
set_option linter.all false
set_option linter.unusedSimpArgs false
set_option linter.unusedVariables false
set_option linter.unusedSectionVars false
namespace Go.AM.SD
open Go Go.AM Go.Proofs Go.RowKit
namespace F11
def cons : List (Nat × Con) := [(17, F17.c), (18, F18.c), (20, F20.c), (25, F25.c), (27, F27.c), (28, F28.c)]
def exts : List (Nat × Ext) := []
def h : List (Nat × Nat × Hint) := [(11, 9, { live := [0, 3, 5, 6], rows := [], own := false, inpl := false }), (11, 16, { live := [0, 3, 5, 6, 7, 9, 11], rows := [], own := false, inpl := false })]
noncomputable def e (M : Nat) : Env := env cons exts h M
noncomputable def t11_0 (_ : Nat) : List Ent := []
theorem t11_0_ok (M : Nat) : AllOk (e M) (tblOf (t11_0 M)) := AllOk.nil
structure S16_11_0 where
  d32 : D
  d33 : D
  i34 : Int
  d35 : D
  i36 : Int
  d37 : D
  d38 : D
  d39 : D
inductive X16_11_0 where
  | e0 (d32 : D) (d33 : D) (i34 : Int) (d35 : D) (i36 : Int) (d37 : D) (d38 : D) (d39 : D) (r40 : D)
  | e1 (d32 : D) (d33 : D) (i34 : Int) (d35 : D) (i36 : Int) (d37 : D) (d38 : D) (d39 : D)
def st16_11_0 (M : Nat) : S16_11_0 → (S16_11_0 → Option D) → (X16_11_0 → Option D) → Option D
  | ⟨d32, d33, i34, d35, i36, d37, d38, d39⟩, rec, K => (cond (ltI i36 (nI d35.elems.length)) (cond (inb i36 d35.elems.length) (bd (F28.s FUEL (ix d35.elems i36.toNat)) fun r40 => (cond (!r40.b) (K (.e0 d32 d33 i34 d35 i36 d37 d38 d39 r40)) (rec ⟨d32, d33, i34, d35, (ad .i64 i36 1), d37, d38, d39⟩))) none) (K (.e1 d32 d33 i34 d35 i36 d37 d38 d39)))
def lv16_11_0 : S16_11_0 → List Leaf
  | ⟨d32, d33, i34, d35, i36, d37, d38, d39⟩ => [.d d32, .d d33, .i i34, .d d35, .i i36, .d d37, .d d38, .d d39]
def of16_11_0 : List Leaf → Option S16_11_0
  | [.d d32, .d d33, .i i34, .d d35, .i i36, .d d37, .d d38, .d d39] => some ⟨d32, d33, i34, d35, i36, d37, d38, d39⟩
  | _ => none
def ex16_11_0 (k : Kont) : X16_11_0 → Option D
  | .e0 d32 d33 i34 d35 i36 d37 d38 d39 r40 => k .ret ((.d (.slice 47) d32) :: (us 1 ((.d .bool (db false)) :: ((.d .bool d33) :: (us 1 ((.ptr 0 [] (.struct [49, 3, 3])) :: ((.d (.int .i64) (di i34)) :: ((.ptr 1 [] (.struct [49, 3, 3])) :: (us 1 ((.d (.slice 38) d35) :: (us 1 ((.d (.int .i64) (di i36)) :: (us 55 ((.d (.int .i64) (di i36)) :: ((.d (.slice 38) d35) :: ((.d (.int .i64) (di (nI d35.elems.length))) :: ((.d .bool (db (ltI i36 (nI d35.elems.length)))) :: (us 2 ((.d (.slice 38) d35) :: ((.d (.int .i64) (di i36)) :: ((.cptr (.struct [34, 3, 9, 3, 3, 36]) (ix d35.elems i36.toNat)) :: ((.d (.struct [34, 3, 9, 3, 3, 36]) (ix d35.elems i36.toNat)) :: ((.d .bool r40) :: ((.d .bool (db (!r40.b))) :: (us 2 []))))))))))))))))))))))))) [(.var (.struct [49, 3, 3]) (.d (.struct [49, 3, 3]) d37)), (.var (.struct [49, 3, 3]) (.d (.struct [49, 3, 3]) d38)), (.var (.struct [28, 3, 9, 42, 40]) (.d (.struct [28, 3, 9, 42, 40]) d39))]
  | .e1 d32 d33 i34 d35 i36 d37 d38 d39 => k (.exit 2) ((.d (.slice 47) d32) :: (us 2 ((.d .bool d33) :: (us 1 ((.ptr 0 [] (.struct [49, 3, 3])) :: ((.d (.int .i64) (di i34)) :: ((.ptr 1 [] (.struct [49, 3, 3])) :: (us 1 ((.d (.slice 38) d35) :: (us 1 ((.d (.int .i64) (di i36)) :: (us 55 ((.d (.int .i64) (di i36)) :: ((.d (.slice 38) d35) :: ((.d (.int .i64) (di (nI d35.elems.length))) :: ((.d .bool (db (ltI i36 (nI d35.elems.length)))) :: (us 10 []))))))))))))))))) [(.var (.struct [49, 3, 3]) (.d (.struct [49, 3, 3]) d37)), (.var (.struct [49, 3, 3]) (.d (.struct [49, 3, 3]) d38)), (.var (.struct [28, 3, 9, 42, 40]) (.d (.struct [28, 3, 9, 42, 40]) d39))]
def ps16_11_0 : List PV := ((.d (.slice 47) .x) :: (up 2 ((.d .bool .x) :: (up 1 ((.ptr 0 [] (.struct [49, 3, 3])) :: ((.d (.int .i64) (.int .i64)) :: ((.ptr 1 [] (.struct [49, 3, 3])) :: (up 1 ((.d (.slice 38) .x) :: (up 1 ((.d (.int .i64) (.int .i64)) :: (up 69 []))))))))))))
def qs16_11_0 : List PO := [(.var (.struct [49, 3, 3]) (.d (.struct [49, 3, 3]) .x)), (.var (.struct [49, 3, 3]) (.d (.struct [49, 3, 3]) .x)), (.var (.struct [28, 3, 9, 42, 40]) (.d (.struct [28, 3, 9, 42, 40]) .x))]
noncomputable def sum16_11_0 (M : Nat) : Sum := sumS [0, 3, 5, 6, 7, 9, 11] ps16_11_0 qs16_11_0 [] of16_11_0 (st16_11_0 M) ex16_11_0 M
theorem sok16_11_0 (M : Nat) : SumOk (loopRd (e M) 11 16) (e M) (call (e M) 11) 11 0 (loopAt (e M) 11 16) (sum16_11_0 M) :=
  sumOk_st (T := tblOf (t11_0 M)) (n0 := 3) (lv := lv16_11_0) (t11_0_ok M) (by kernel_rfl) rfl (by intro ls s h; unfold of16_11_0 at h; (repeat' split at h) <;> simp at h; subst h; rfl) (by intro s; kernel_rfl) (by intro s; kernel_rfl) (by intro s nx k; kernel_rfl)
noncomputable def t11_1 (M : Nat) : List Ent := ⟨11, 11, 0, 16, sum16_11_0 M⟩ :: t11_0 M
theorem t11_1_ok (M : Nat) : AllOk (e M) (tblOf (t11_1 M)) := (t11_0_ok M).add ⟨11, 11, 0, 16, sum16_11_0 M⟩ (by kernel_rfl) (sok16_11_0 M)
structure S9 where
  d25 : D
  d26 : D
  i27 : Int
  d28 : D
inductive X9 where
  | e0 (d25 : D) (d26 : D) (i27 : Int) (d28 : D) (r29 : D) (r30 : D) (r31 : D)
  | e1 (d25 : D) (d26 : D) (i27 : Int) (d28 : D) (r29 : D) (r30 : D) (r31 : D)
  | e2 (d25 : D) (d26 : D) (i27 : Int) (d28 : D) (r29 : D) (r30 : D) (r31 : D)
  | e3 (d32 : D) (d33 : D) (i34 : Int) (d35 : D) (i36 : Int) (d37 : D) (d38 : D) (d39 : D) (r40 : D)
  | e4 (d32 : D) (d33 : D) (i34 : Int) (d35 : D) (i36 : Int) (d37 : D) (d38 : D) (d39 : D) (r40 : D)
  | e5 (d25 : D) (d26 : D) (i27 : Int) (d28 : D) (r29 : D) (r30 : D) (r31 : D)
  | e6 (d25 : D) (d26 : D) (i27 : Int) (d28 : D) (r29 : D) (r30 : D) (r31 : D)
  | e7 (d32 : D) (d33 : D) (i34 : Int) (d35 : D) (i36 : Int) (d37 : D) (d38 : D) (d39 : D) (r40 : D)
  | e8 (d32 : D) (d33 : D) (i34 : Int) (d35 : D) (i36 : Int) (d37 : D) (d38 : D) (d39 : D) (r40 : D)
  | e9 (d25 : D) (d26 : D) (i27 : Int) (d28 : D) (r29 : D) (r30 : D) (r31 : D)
  | e10 (d32 : D) (d33 : D) (i34 : Int) (d35 : D) (i36 : Int) (d37 : D) (d38 : D) (d39 : D) (r40 : D)
  | e (d32 : D) (d33 : D) (i34 : Int) (d35 : D) (i36 : Int) (d37 : D) (d38 : D) (d39 : D) (r40 : D)
  | e12 (d25 : D) (d26 : D) (i27 : Int) (d28 : D)
def st9 (M : Nat) : S9 → (S9 → Option D) → (X9 → Option D) → Option D
  | ⟨d25, d26, i27, d28⟩, rec, K => (cond (ltI i27 (nI d25.elems.length)) (cond (inb i27 d25.elems.length) (bd (F20.s FUEL d28 (ix d25.elems i27.toNat)) fun r29 => (bd (F25.s FUEL d28 (r29.at 0)) fun r30 => (bd (F27.s FUEL (r29.at 0)) fun r31 => (cond (!r31.b) (K (.e0 d25 d26 i27 d28 r29 r30 r31)) (cond (neI ((r29.at 1).at 0).i 0) (cond (!r30.b) (K (.e1 d25 d26 i27 d28 r29 r30 r31)) (cond (neI ((r29.at 1).at 0).i 0) (cond (gtI (nI (r29.at 2).elems.length) 0) (K (.e2 d25 d26 i27 d28 r29 r30 r31)) (goS (st16_11_0 M) M ⟨d25, d26, i27, (r29.at 2), 0, d28, (r29.at 0), (r29.at 1)⟩ fun x => match x with | .e0 d32 d33 i34 d35 i36 d37 d38 d39 r40 => (K (.e3 d32 d33 i34 d35 i36 d37 d38 d39 r40)) | .e1 d32 d33 i34 d35 i36 d37 d38 d39 => (rec ⟨d32, d33, (ad .i64 i34 1), d38⟩))) (goS (st16_11_0 M) M ⟨d25, d26, i27, (r29.at 2), 0, d28, (r29.at 0), (r29.at 1)⟩ fun x => match x with | .e0 d32 d33 i34 d35 i36 d37 d38 d39 r40 => (K (.e4 d32 d33 i34 d35 i36 d37 d38 d39 r40)) | .e1 d32 d33 i34 d35 i36 d37 d38 d39 => (rec ⟨d32, d33, (ad .i64 i34 1), d38⟩)))) (cond (eqI (nI (r29.at 2).elems.length) 0) (cond (!r30.b) (K (.e5 d25 d26 i27 d28 r29 r30 r31)) (cond (neI ((r29.at 1).at 0).i 0) (cond (gtI (nI (r29.at 2).elems.length) 0) (K (.e6 d25 d26 i27 d28 r29 r30 r31)) (goS (st16_11_0 M) M ⟨d25, d26, i27, (r29.at 2), 0, d28, (r29.at 0), (r29.at 1)⟩ fun x => match x with | .e0 d32 d33 i34 d35 i36 d37 d38 d39 r40 => (K (.e7 d32 d33 i34 d35 i36 d37 d38 d39 r40)) | .e1 d32 d33 i34 d35 i36 d37 d38 d39 => (rec ⟨d32, d33, (ad .i64 i34 1), d38⟩))) (goS (st16_11_0 M) M ⟨d25, d26, i27, (r29.at 2), 0, d28, (r29.at 0), (r29.at 1)⟩ fun x => match x with | .e0 d32 d33 i34 d35 i36 d37 d38 d39 r40 => (K (.e8 d32 d33 i34 d35 i36 d37 d38 d39 r40)) | .e1 d32 d33 i34 d35 i36 d37 d38 d39 => (rec ⟨d32, d33, (ad .i64 i34 1), d38⟩)))) (cond (neI ((r29.at 1).at 0).i 0) (cond (gtI (nI (r29.at 2).elems.length) 0) (K (.e9 d25 d26 i27 d28 r29 r30 r31)) (goS (st16_11_0 M) M ⟨d25, d26, i27, (r29.at 2), 0, d28, (r29.at 0), (r29.at 1)⟩ fun x => match x with | .e0 d32 d33 i34 d35 i36 d37 d38 d39 r40 => (K (.e10 d32 d33 i34 d35 i36 d37 d38 d39 r40)) | .e1 d32 d33 i34 d35 i36 d37 d38 d39 => (rec ⟨d32, d33, (ad .i64 i34 1), d38⟩))) (goS (st16_11_0 M) M ⟨d25, d26, i27, (r29.at 2), 0, d28, (r29.at 0), (r29.at 1)⟩ fun x => match x with | .e0 d32 d33 i34 d35 i36 d37 d38 d39 r40 => (K (.e d32 d33 i34 d35 i36 d37 d38 d39 r40)) | .e1 d32 d33 i34 d35 i36 d37 d38 d39 => (rec ⟨d32, d33, (ad .i64 i34 1), d38⟩))))))))) none) (K (.e12 d25 d26 i27 d28)))
def lv9 : S9 → List Leaf
  | ⟨d25, d26, i27, d28⟩ => [.d d25, .d d26, .i i27, .d d28]
def of9 : List Leaf → Option S9
  | [.d d25, .d d26, .i i27, .d d28] => some ⟨d25, d26, i27, d28⟩
  | _ => none
def ex9 (k : Kont) : X9 → Option D
  | .e0 d25 d26 i27 d28 r29 r30 r31 => k .ret ((.d (.slice 47) d25) :: (us 1 ((.d .bool (db false)) :: ((.d .bool d26) :: (us 1 ((.ptr 0 [] (.struct [49, 3, 3])) :: ((.d (.int .i64) (di i27)) :: ((.ptr 1 [] (.struct [49, 3, 3])) :: ((.ptr 2 [] (.struct [28, 3, 9, 42, 40])) :: ((.d (.slice 38) (r29.at 2)) :: ((.d .bool r30) :: (us 10 ((.d (.int .i64) (di i27)) :: ((.d (.slice 47) d25) :: ((.d (.int .i64) (di (nI d25.elems.length))) :: ((.d .bool (db (ltI i27 (nI d25.elems.length)))) :: (us 2 ((.dtup [(.struct [49, 3, 3]), (.struct [28, 3, 9, 42, 40]), (.slice 38)] r29) :: ((.d (.struct [49, 3, 3]) d28) :: ((.d (.slice 47) d25) :: ((.d (.int .i64) (di i27)) :: ((.cptr (.struct [34, 9, 9, 3, 3, 3]) (ix d25.elems i27.toNat)) :: ((.d (.struct [34, 9, 9, 3, 3, 3]) (ix d25.elems i27.toNat)) :: ((.dtup [(.struct [49, 3, 3]), (.struct [28, 3, 9, 42, 40]), (.slice 38)] r29) :: ((.d (.struct [49, 3, 3]) (r29.at 0)) :: ((.d (.struct [28, 3, 9, 42, 40]) (r29.at 1)) :: ((.d (.slice 38) (r29.at 2)) :: ((.d (.struct [49, 3, 3]) d28) :: ((.d (.struct [49, 3, 3]) (r29.at 0)) :: ((.d .bool r30) :: ((.d (.struct [49, 3, 3]) (r29.at 0)) :: ((.d .bool r31) :: ((.d .bool (db (!r31.b))) :: ((.d .bool (db true)) :: ((.tup []) :: ((.tup []) :: ((.tup []) :: ((.tup []) :: ((.tup []) :: ((.tup []) :: ((.tup []) :: ((.tup []) :: ((.tup []) :: ((.tup []) :: ((.tup []) :: ((.tup []) :: ((.d .bool (db true)) :: ((.d .bool (db true)) :: ((.tup []) :: ((.tup []) :: ((.tup []) :: ((.tup []) :: ((.tup []) :: ((.tup []) :: ((.tup []) :: ((.tup []) :: ((.d .bool (db true)) :: (us 14 [])))))))))))))))))))))))))))))))))))))))))))))))))))))))))) [(.var (.struct [49, 3, 3]) (.d (.struct [49, 3, 3]) d28)), (.var (.struct [49, 3, 3]) (.d (.struct [49, 3, 3]) (r29.at 0))), (.var (.struct [28, 3, 9, 42, 40]) (.d (.struct [28, 3, 9, 42, 40]) (r29.at 1)))]
  | .e1 d25 d26 i27 d28 r29 r30 r31 => k .ret ((.d (.slice 47) d25) :: (us 1 ((.d .bool (db false)) :: ((.d .bool d26) :: (us 1 ((.ptr 0 [] (.struct [49, 3, 3])) :: ((.d (.int .i64) (di i27)) :: ((.ptr 1 [] (.struct [49, 3, 3])) :: ((.ptr 2 [] (.struct [28, 3, 9, 42, 40])) :: ((.d (.slice 38) (r29.at 2)) :: ((.d .bool r30) :: (us 10 ((.d (.int .i64) (di i27)) :: ((.d (.slice 47) d25) :: ((.d (.int .i64) (di (nI d25.elems.length))) :: ((.d .bool (db (ltI i27 (nI d25.elems.length)))) :: (us 2 ((.dtup [(.struct [49, 3, 3]), (.struct [28, 3, 9, 42, 40]), (.slice 38)] r29) :: ((.d (.struct [49, 3, 3]) d28) :: ((.d (.slice 47) d25) :: ((.d (.int .i64) (di i27)) :: ((.cptr (.struct [34, 9, 9, 3, 3, 3]) (ix d25.elems i27.toNat)) :: ((.d (.struct [34, 9, 9, 3, 3, 3]) (ix d25.elems i27.toNat)) :: ((.dtup [(.struct [49, 3, 3]), (.struct [28, 3, 9, 42, 40]), (.slice 38)] r29) :: ((.d (.struct [49, 3, 3]) (r29.at 0)) :: ((.d (.struct [28, 3, 9, 42, 40]) (r29.at 1)) :: ((.d (.slice 38) (r29.at 2)) :: ((.d (.struct [49, 3, 3]) d28) :: ((.d (.struct [49, 3, 3]) (r29.at 0)) :: ((.d .bool r30) :: ((.d (.struct [49, 3, 3]) (r29.at 0)) :: ((.d .bool r31) :: ((.d .bool (db (!r31.b))) :: ((.d .bool (db false)) :: ((.ptr 2 [0] (.int .i64)) :: ((.d (.int .i64) ((r29.at 1).at 0)) :: ((.d .bool (db (neI ((r29.at 1).at 0).i 0))) :: ((.d .bool (db true)) :: ((.tup []) :: ((.tup []) :: ((.tup []) :: ((.d .bool (db true)) :: ((.d .bool (db true)) :: ((.d .bool r30) :: ((.d .bool (db (!r30.b))) :: ((.d .bool (db (!r30.b))) :: ((.d .bool (db (!r30.b))) :: ((.d .bool (db true)) :: ((.tup []) :: ((.tup []) :: ((.tup []) :: ((.tup []) :: ((.tup []) :: ((.tup []) :: ((.tup []) :: ((.tup []) :: ((.d .bool (db true)) :: (us 14 [])))))))))))))))))))))))))))))))))))))))))))))))))))))))))) [(.var (.struct [49, 3, 3]) (.d (.struct [49, 3, 3]) d28)), (.var (.struct [49, 3, 3]) (.d (.struct [49, 3, 3]) (r29.at 0))), (.var (.struct [28, 3, 9, 42, 40]) (.d (.struct [28, 3, 9, 42, 40]) (r29.at 1)))]
  | .e2 d25 d26 i27 d28 r29 r30 r31 => k .ret ((.d (.slice 47) d25) :: (us 1 ((.d .bool (db false)) :: ((.d .bool d26) :: (us 1 ((.ptr 0 [] (.struct [49, 3, 3])) :: ((.d (.int .i64) (di i27)) :: ((.ptr 1 [] (.struct [49, 3, 3])) :: ((.ptr 2 [] (.struct [28, 3, 9, 42, 40])) :: ((.d (.slice 38) (r29.at 2)) :: ((.d .bool r30) :: (us 10 ((.d (.int .i64) (di i27)) :: ((.d (.slice 47) d25) :: ((.d (.int .i64) (di (nI d25.elems.length))) :: ((.d .bool (db (ltI i27 (nI d25.elems.length)))) :: (us 2 ((.dtup [(.struct [49, 3, 3]), (.struct [28, 3, 9, 42, 40]), (.slice 38)] r29) :: ((.d (.struct [49, 3, 3]) d28) :: ((.d (.slice 47) d25) :: ((.d (.int .i64) (di i27)) :: ((.cptr (.struct [34, 9, 9, 3, 3, 3]) (ix d25.elems i27.toNat)) :: ((.d (.struct [34, 9, 9, 3, 3, 3]) (ix d25.elems i27.toNat)) :: ((.dtup [(.struct [49, 3, 3]), (.struct [28, 3, 9, 42, 40]), (.slice 38)] r29) :: ((.d (.struct [49, 3, 3]) (r29.at 0)) :: ((.d (.struct [28, 3, 9, 42, 40]) (r29.at 1)) :: ((.d (.slice 38) (r29.at 2)) :: ((.d (.struct [49, 3, 3]) d28) :: ((.d (.struct [49, 3, 3]) (r29.at 0)) :: ((.d .bool r30) :: ((.d (.struct [49, 3, 3]) (r29.at 0)) :: ((.d .bool r31) :: ((.d .bool (db (!r31.b))) :: ((.d .bool (db false)) :: ((.ptr 2 [0] (.int .i64)) :: ((.d (.int .i64) ((r29.at 1).at 0)) :: ((.d .bool (db (neI ((r29.at 1).at 0).i 0))) :: ((.d .bool (db true)) :: ((.tup []) :: ((.tup []) :: ((.tup []) :: ((.d .bool (db true)) :: ((.d .bool (db true)) :: ((.d .bool r30) :: ((.d .bool (db (!r30.b))) :: ((.d .bool (db (!r30.b))) :: ((.d .bool (db (!r30.b))) :: ((.d .bool (db false)) :: ((.ptr 2 [0] (.int .i64)) :: ((.d (.int .i64) ((r29.at 1).at 0)) :: ((.d .bool (db (neI ((r29.at 1).at 0).i 0))) :: ((.d .bool (db true)) :: ((.d (.slice 38) (r29.at 2)) :: ((.d (.int .i64) (di (nI (r29.at 2).elems.length))) :: ((.d .bool (db (gtI (nI (r29.at 2).elems.length) 0))) :: ((.d .bool (db (gtI (nI (r29.at 2).elems.length) 0))) :: ((.d .bool (db (gtI (nI (r29.at 2).elems.length) 0))) :: (us 14 [])))))))))))))))))))))))))))))))))))))))))))))))))))))))))) [(.var (.struct [49, 3, 3]) (.d (.struct [49, 3, 3]) d28)), (.var (.struct [49, 3, 3]) (.d (.struct [49, 3, 3]) (r29.at 0))), (.var (.struct [28, 3, 9, 42, 40]) (.d (.struct [28, 3, 9, 42, 40]) (r29.at 1)))]
  | .e3 d32 d33 i34 d35 i36 d37 d38 d39 r40 => k .ret ((.d (.slice 47) d32) :: (us 1 ((.d .bool (db false)) :: ((.d .bool d33) :: (us 1 ((.ptr 0 [] (.struct [49, 3, 3])) :: ((.d (.int .i64) (di i34)) :: ((.ptr 1 [] (.struct [49, 3, 3])) :: (us 1 ((.d (.slice 38) d35) :: (us 1 ((.d (.int .i64) (di i36)) :: (us 55 ((.d (.int .i64) (di i36)) :: ((.d (.slice 38) d35) :: ((.d (.int .i64) (di (nI d35.elems.length))) :: ((.d .bool (db (ltI i36 (nI d35.elems.length)))) :: (us 2 ((.d (.slice 38) d35) :: ((.d (.int .i64) (di i36)) :: ((.cptr (.struct [34, 3, 9, 3, 3, 36]) (ix d35.elems i36.toNat)) :: ((.d (.struct [34, 3, 9, 3, 3, 36]) (ix d35.elems i36.toNat)) :: ((.d .bool r40) :: ((.d .bool (db (!r40.b))) :: (us 2 []))))))))))))))))))))))))) [(.var (.struct [49, 3, 3]) (.d (.struct [49, 3, 3]) d37)), (.var (.struct [49, 3, 3]) (.d (.struct [49, 3, 3]) d38)), (.var (.struct [28, 3, 9, 42, 40]) (.d (.struct [28, 3, 9, 42, 40]) d39))]
  | .e4 d32 d33 i34 d35 i36 d37 d38 d39 r40 => k .ret ((.d (.slice 47) d32) :: (us 1 ((.d .bool (db false)) :: ((.d .bool d33) :: (us 1 ((.ptr 0 [] (.struct [49, 3, 3])) :: ((.d (.int .i64) (di i34)) :: ((.ptr 1 [] (.struct [49, 3, 3])) :: (us 1 ((.d (.slice 38) d35) :: (us 1 ((.d (.int .i64) (di i36)) :: (us 55 ((.d (.int .i64) (di i36)) :: ((.d (.slice 38) d35) :: ((.d (.int .i64) (di (nI d35.elems.length))) :: ((.d .bool (db (ltI i36 (nI d35.elems.length)))) :: (us 2 ((.d (.slice 38) d35) :: ((.d (.int .i64) (di i36)) :: ((.cptr (.struct [34, 3, 9, 3, 3, 36]) (ix d35.elems i36.toNat)) :: ((.d (.struct [34, 3, 9, 3, 3, 36]) (ix d35.elems i36.toNat)) :: ((.d .bool r40) :: ((.d .bool (db (!r40.b))) :: (us 2 []))))))))))))))))))))))))) [(.var (.struct [49, 3, 3]) (.d (.struct [49, 3, 3]) d37)), (.var (.struct [49, 3, 3]) (.d (.struct [49, 3, 3]) d38)), (.var (.struct [28, 3, 9, 42, 40]) (.d (.struct [28, 3, 9, 42, 40]) d39))]
  | .e5 d25 d26 i27 d28 r29 r30 r31 => k .ret ((.d (.slice 47) d25) :: (us 1 ((.d .bool (db false)) :: ((.d .bool d26) :: (us 1 ((.ptr 0 [] (.struct [49, 3, 3])) :: ((.d (.int .i64) (di i27)) :: ((.ptr 1 [] (.struct [49, 3, 3])) :: ((.ptr 2 [] (.struct [28, 3, 9, 42, 40])) :: ((.d (.slice 38) (r29.at 2)) :: ((.d .bool r30) :: (us 10 ((.d (.int .i64) (di i27)) :: ((.d (.slice 47) d25) :: ((.d (.int .i64) (di (nI d25.elems.length))) :: ((.d .bool (db (ltI i27 (nI d25.elems.length)))) :: (us 2 ((.dtup [(.struct [49, 3, 3]), (.struct [28, 3, 9, 42, 40]), (.slice 38)] r29) :: ((.d (.struct [49, 3, 3]) d28) :: ((.d (.slice 47) d25) :: ((.d (.int .i64) (di i27)) :: ((.cptr (.struct [34, 9, 9, 3, 3, 3]) (ix d25.elems i27.toNat)) :: ((.d (.struct [34, 9, 9, 3, 3, 3]) (ix d25.elems i27.toNat)) :: ((.dtup [(.struct [49, 3, 3]), (.struct [28, 3, 9, 42, 40]), (.slice 38)] r29) :: ((.d (.struct [49, 3, 3]) (r29.at 0)) :: ((.d (.struct [28, 3, 9, 42, 40]) (r29.at 1)) :: ((.d (.slice 38) (r29.at 2)) :: ((.d (.struct [49, 3, 3]) d28) :: ((.d (.struct [49, 3, 3]) (r29.at 0)) :: ((.d .bool r30) :: ((.d (.struct [49, 3, 3]) (r29.at 0)) :: ((.d .bool r31) :: ((.d .bool (db (!r31.b))) :: ((.d .bool (db false)) :: ((.ptr 2 [0] (.int .i64)) :: ((.d (.int .i64) ((r29.at 1).at 0)) :: ((.d .bool (db (neI ((r29.at 1).at 0).i 0))) :: ((.d .bool (db false)) :: ((.d (.slice 38) (r29.at 2)) :: ((.d (.int .i64) (di (nI (r29.at 2).elems.length))) :: ((.d .bool (db (eqI (nI (r29.at 2).elems.length) 0))) :: ((.d .bool (db (eqI (nI (r29.at 2).elems.length) 0))) :: ((.d .bool (db true)) :: ((.d .bool r30) :: ((.d .bool (db (!r30.b))) :: ((.d .bool (db (!r30.b))) :: ((.d .bool (db (!r30.b))) :: ((.d .bool (db true)) :: ((.tup []) :: ((.tup []) :: ((.tup []) :: ((.tup []) :: ((.tup []) :: ((.tup []) :: ((.tup []) :: ((.tup []) :: ((.d .bool (db true)) :: (us 14 [])))))))))))))))))))))))))))))))))))))))))))))))))))))))))) [(.var (.struct [49, 3, 3]) (.d (.struct [49, 3, 3]) d28)), (.var (.struct [49, 3, 3]) (.d (.struct [49, 3, 3]) (r29.at 0))), (.var (.struct [28, 3, 9, 42, 40]) (.d (.struct [28, 3, 9, 42, 40]) (r29.at 1)))]
  | .e6 d25 d26 i27 d28 r29 r30 r31 => k .ret ((.d (.slice 47) d25) :: (us 1 ((.d .bool (db false)) :: ((.d .bool d26) :: (us 1 ((.ptr 0 [] (.struct [49, 3, 3])) :: ((.d (.int .i64) (di i27)) :: ((.ptr 1 [] (.struct [49, 3, 3])) :: ((.ptr 2 [] (.struct [28, 3, 9, 42, 40])) :: ((.d (.slice 38) (r29.at 2)) :: ((.d .bool r30) :: (us 10 ((.d (.int .i64) (di i27)) :: ((.d (.slice 47) d25) :: ((.d (.int .i64) (di (nI d25.elems.length))) :: ((.d .bool (db (ltI i27 (nI d25.elems.length)))) :: (us 2 ((.dtup [(.struct [49, 3, 3]), (.struct [28, 3, 9, 42, 40]), (.slice 38)] r29) :: ((.d (.struct [49, 3, 3]) d28) :: ((.d (.slice 47) d25) :: ((.d (.int .i64) (di i27)) :: ((.cptr (.struct [34, 9, 9, 3, 3, 3]) (ix d25.elems i27.toNat)) :: ((.d (.struct [34, 9, 9, 3, 3, 3]) (ix d25.elems i27.toNat)) :: ((.dtup [(.struct [49, 3, 3]), (.struct [28, 3, 9, 42, 40]), (.slice 38)] r29) :: ((.d (.struct [49, 3, 3]) (r29.at 0)) :: ((.d (.struct [28, 3, 9, 42, 40]) (r29.at 1)) :: ((.d (.slice 38) (r29.at 2)) :: ((.d (.struct [49, 3, 3]) d28) :: ((.d (.struct [49, 3, 3]) (r29.at 0)) :: ((.d .bool r30) :: ((.d (.struct [49, 3, 3]) (r29.at 0)) :: ((.d .bool r31) :: ((.d .bool (db (!r31.b))) :: ((.d .bool (db false)) :: ((.ptr 2 [0] (.int .i64)) :: ((.d (.int .i64) ((r29.at 1).at 0)) :: ((.d .bool (db (neI ((r29.at 1).at 0).i 0))) :: ((.d .bool (db false)) :: ((.d (.slice 38) (r29.at 2)) :: ((.d (.int .i64) (di (nI (r29.at 2).elems.length))) :: ((.d .bool (db (eqI (nI (r29.at 2).elems.length) 0))) :: ((.d .bool (db (eqI (nI (r29.at 2).elems.length) 0))) :: ((.d .bool (db true)) :: ((.d .bool r30) :: ((.d .bool (db (!r30.b))) :: ((.d .bool (db (!r30.b))) :: ((.d .bool (db (!r30.b))) :: ((.d .bool (db false)) :: ((.ptr 2 [0] (.int .i64)) :: ((.d (.int .i64) ((r29.at 1).at 0)) :: ((.d .bool (db (neI ((r29.at 1).at 0).i 0))) :: ((.d .bool (db true)) :: ((.d (.slice 38) (r29.at 2)) :: ((.d (.int .i64) (di (nI (r29.at 2).elems.length))) :: ((.d .bool (db (gtI (nI (r29.at 2).elems.length) 0))) :: ((.d .bool (db (gtI (nI (r29.at 2).elems.length) 0))) :: ((.d .bool (db (gtI (nI (r29.at 2).elems.length) 0))) :: (us 14 [])))))))))))))))))))))))))))))))))))))))))))))))))))))))))) [(.var (.struct [49, 3, 3]) (.d (.struct [49, 3, 3]) d28)), (.var (.struct [49, 3, 3]) (.d (.struct [49, 3, 3]) (r29.at 0))), (.var (.struct [28, 3, 9, 42, 40]) (.d (.struct [28, 3, 9, 42, 40]) (r29.at 1)))]
  | .e7 d32 d33 i34 d35 i36 d37 d38 d39 r40 => k .ret ((.d (.slice 47) d32) :: (us 1 ((.d .bool (db false)) :: ((.d .bool d33) :: (us 1 ((.ptr 0 [] (.struct [49, 3, 3])) :: ((.d (.int .i64) (di i34)) :: ((.ptr 1 [] (.struct [49, 3, 3])) :: (us 1 ((.d (.slice 38) d35) :: (us 1 ((.d (.int .i64) (di i36)) :: (us 55 ((.d (.int .i64) (di i36)) :: ((.d (.slice 38) d35) :: ((.d (.int .i64) (di (nI d35.elems.length))) :: ((.d .bool (db (ltI i36 (nI d35.elems.length)))) :: (us 2 ((.d (.slice 38) d35) :: ((.d (.int .i64) (di i36)) :: ((.cptr (.struct [34, 3, 9, 3, 3, 36]) (ix d35.elems i36.toNat)) :: ((.d (.struct [34, 3, 9, 3, 3, 36]) (ix d35.elems i36.toNat)) :: ((.d .bool r40) :: ((.d .bool (db (!r40.b))) :: (us 2 []))))))))))))))))))))))))) [(.var (.struct [49, 3, 3]) (.d (.struct [49, 3, 3]) d37)), (.var (.struct [49, 3, 3]) (.d (.struct [49, 3, 3]) d38)), (.var (.struct [28, 3, 9, 42, 40]) (.d (.struct [28, 3, 9, 42, 40]) d39))]
  | .e8 d32 d33 i34 d35 i36 d37 d38 d39 r40 => k .ret ((.d (.slice 47) d32) :: (us 1 ((.d .bool (db false)) :: ((.d .bool d33) :: (us 1 ((.ptr 0 [] (.struct [49, 3, 3])) :: ((.d (.int .i64) (di i34)) :: ((.ptr 1 [] (.struct [49, 3, 3])) :: (us 1 ((.d (.slice 38) d35) :: (us 1 ((.d (.int .i64) (di i36)) :: (us 55 ((.d (.int .i64) (di i36)) :: ((.d (.slice 38) d35) :: ((.d (.int .i64) (di (nI d35.elems.length))) :: ((.d .bool (db (ltI i36 (nI d35.elems.length)))) :: (us 2 ((.d (.slice 38) d35) :: ((.d (.int .i64) (di i36)) :: ((.cptr (.struct [34, 3, 9, 3, 3, 36]) (ix d35.elems i36.toNat)) :: ((.d (.struct [34, 3, 9, 3, 3, 36]) (ix d35.elems i36.toNat)) :: ((.d .bool r40) :: ((.d .bool (db (!r40.b))) :: (us 2 []))))))))))))))))))))))))) [(.var (.struct [49, 3, 3]) (.d (.struct [49, 3, 3]) d37)), (.var (.struct [49, 3, 3]) (.d (.struct [49, 3, 3]) d38)), (.var (.struct [28, 3, 9, 42, 40]) (.d (.struct [28, 3, 9, 42, 40]) d39))]
  | .e9 d25 d26 i27 d28 r29 r30 r31 => k .ret ((.d (.slice 47) d25) :: (us 1 ((.d .bool (db false)) :: ((.d .bool d26) :: (us 1 ((.ptr 0 [] (.struct [49, 3, 3])) :: ((.d (.int .i64) (di i27)) :: ((.ptr 1 [] (.struct [49, 3, 3])) :: ((.ptr 2 [] (.struct [28, 3, 9, 42, 40])) :: ((.d (.slice 38) (r29.at 2)) :: ((.d .bool r30) :: (us 10 ((.d (.int .i64) (di i27)) :: ((.d (.slice 47) d25) :: ((.d (.int .i64) (di (nI d25.elems.length))) :: ((.d .bool (db (ltI i27 (nI d25.elems.length)))) :: (us 2 ((.dtup [(.struct [49, 3, 3]), (.struct [28, 3, 9, 42, 40]), (.slice 38)] r29) :: ((.d (.struct [49, 3, 3]) d28) :: ((.d (.slice 47) d25) :: ((.d (.int .i64) (di i27)) :: ((.cptr (.struct [34, 9, 9, 3, 3, 3]) (ix d25.elems i27.toNat)) :: ((.d (.struct [34, 9, 9, 3, 3, 3]) (ix d25.elems i27.toNat)) :: ((.dtup [(.struct [49, 3, 3]), (.struct [28, 3, 9, 42, 40]), (.slice 38)] r29) :: ((.d (.struct [49, 3, 3]) (r29.at 0)) :: ((.d (.struct [28, 3, 9, 42, 40]) (r29.at 1)) :: ((.d (.slice 38) (r29.at 2)) :: ((.d (.struct [49, 3, 3]) d28) :: ((.d (.struct [49, 3, 3]) (r29.at 0)) :: ((.d .bool r30) :: ((.d (.struct [49, 3, 3]) (r29.at 0)) :: ((.d .bool r31) :: ((.d .bool (db (!r31.b))) :: ((.d .bool (db false)) :: ((.ptr 2 [0] (.int .i64)) :: ((.d (.int .i64) ((r29.at 1).at 0)) :: ((.d .bool (db (neI ((r29.at 1).at 0).i 0))) :: ((.d .bool (db false)) :: ((.d (.slice 38) (r29.at 2)) :: ((.d (.int .i64) (di (nI (r29.at 2).elems.length))) :: ((.d .bool (db (eqI (nI (r29.at 2).elems.length) 0))) :: ((.d .bool (db (eqI (nI (r29.at 2).elems.length) 0))) :: ((.d .bool (db false)) :: ((.tup []) :: ((.tup []) :: ((.d .bool (db false)) :: ((.d .bool (db false)) :: ((.d .bool (db false)) :: ((.ptr 2 [0] (.int .i64)) :: ((.d (.int .i64) ((r29.at 1).at 0)) :: ((.d .bool (db (neI ((r29.at 1).at 0).i 0))) :: ((.d .bool (db true)) :: ((.d (.slice 38) (r29.at 2)) :: ((.d (.int .i64) (di (nI (r29.at 2).elems.length))) :: ((.d .bool (db (gtI (nI (r29.at 2).elems.length) 0))) :: ((.d .bool (db (gtI (nI (r29.at 2).elems.length) 0))) :: ((.d .bool (db (gtI (nI (r29.at 2).elems.length) 0))) :: (us 14 [])))))))))))))))))))))))))))))))))))))))))))))))))))))))))) [(.var (.struct [49, 3, 3]) (.d (.struct [49, 3, 3]) d28)), (.var (.struct [49, 3, 3]) (.d (.struct [49, 3, 3]) (r29.at 0))), (.var (.struct [28, 3, 9, 42, 40]) (.d (.struct [28, 3, 9, 42, 40]) (r29.at 1)))]
  | .e10 d32 d33 i34 d35 i36 d37 d38 d39 r40 => k .ret ((.d (.slice 47) d32) :: (us 1 ((.d .bool (db false)) :: ((.d .bool d33) :: (us 1 ((.ptr 0 [] (.struct [49, 3, 3])) :: ((.d (.int .i64) (di i34)) :: ((.ptr 1 [] (.struct [49, 3, 3])) :: (us 1 ((.d (.slice 38) d35) :: (us 1 ((.d (.int .i64) (di i36)) :: (us 55 ((.d (.int .i64) (di i36)) :: ((.d (.slice 38) d35) :: ((.d (.int .i64) (di (nI d35.elems.length))) :: ((.d .bool (db (ltI i36 (nI d35.elems.length)))) :: (us 2 ((.d (.slice 38) d35) :: ((.d (.int .i64) (di i36)) :: ((.cptr (.struct [34, 3, 9, 3, 3, 36]) (ix d35.elems i36.toNat)) :: ((.d (.struct [34, 3, 9, 3, 3, 36]) (ix d35.elems i36.toNat)) :: ((.d .bool r40) :: ((.d .bool (db (!r40.b))) :: (us 2 []))))))))))))))))))))))))) [(.var (.struct [49, 3, 3]) (.d (.struct [49, 3, 3]) d37)), (.var (.struct [49, 3, 3]) (.d (.struct [49, 3, 3]) d38)), (.var (.struct [28, 3, 9, 42, 40]) (.d (.struct [28, 3, 9, 42, 40]) d39))]
  | .e d32 d33 i34 d35 i36 d37 d38 d39 r40 => k .ret ((.d (.slice 47) d32) :: (us 1 ((.d .bool (db false)) :: ((.d .bool d33) :: (us 1 ((.ptr 0 [] (.struct [49, 3, 3])) :: ((.d (.int .i64) (di i34)) :: ((.ptr 1 [] (.struct [49, 3, 3])) :: (us 1 ((.d (.slice 38) d35) :: (us 1 ((.d (.int .i64) (di i36)) :: (us 55 ((.d (.int .i64) (di i36)) :: ((.d (.slice 38) d35) :: ((.d (.int .i64) (di (nI d35.elems.length))) :: ((.d .bool (db (ltI i36 (nI d35.elems.length)))) :: (us 2 ((.d (.slice 38) d35) :: ((.d (.int .i64) (di i36)) :: ((.cptr (.struct [34, 3, 9, 3, 3, 36]) (ix d35.elems i36.toNat)) :: ((.d (.struct [34, 3, 9, 3, 3, 36]) (ix d35.elems i36.toNat)) :: ((.d .bool r40) :: ((.d .bool (db (!r40.b))) :: (us 2 []))))))))))))))))))))))))) [(.var (.struct [49, 3, 3]) (.d (.struct [49, 3, 3]) d37)), (.var (.struct [49, 3, 3]) (.d (.struct [49, 3, 3]) d38)), (.var (.struct [28, 3, 9, 42, 40]) (.d (.struct [28, 3, 9, 42, 40]) d39))]
  | .e12 d25 d26 i27 d28 => k (.exit 0) ((.d (.slice 47) d25) :: (us 2 ((.d .bool d26) :: (us 1 ((.ptr 0 [] (.struct [49, 3, 3])) :: ((.d (.int .i64) (di i27)) :: (us 14 ((.d (.int .i64) (di i27)) :: ((.d (.slice 47) d25) :: ((.d (.int .i64) (di (nI d25.elems.length))) :: ((.d .bool (db (ltI i27 (nI d25.elems.length)))) :: (us 56 [])))))))))))) [(.var (.struct [49, 3, 3]) (.d (.struct [49, 3, 3]) d28))]
def ps9 : List PV := ((.d (.slice 47) .x) :: (up 2 ((.d .bool .x) :: (up 1 ((.ptr 0 [] (.struct [49, 3, 3])) :: ((.d (.int .i64) (.int .i64)) :: (up 74 [])))))))
def qs9 : List PO := [(.var (.struct [49, 3, 3]) (.d (.struct [49, 3, 3]) .x))]
noncomputable def sum9 (M : Nat) : Sum := sumS [0, 3, 5, 6] ps9 qs9 [] of9 (st9 M) ex9 M
theorem sok9 (M : Nat) : SumOk (loopRd (e M) 11 9) (e M) (call (e M) 11) 11 0 (loopAt (e M) 11 9) (sum9 M) :=
  sumOk_st (T := tblOf (t11_1 M)) (n0 := 1) (lv := lv9) (t11_1_ok M) (by kernel_rfl) rfl (by intro ls s h; unfold of9 at h; (repeat' split at h) <;> simp at h; subst h; rfl) (by intro s; kernel_rfl) (by intro s; kernel_rfl) (by intro s nx k; kernel_rfl)
noncomputable def t11_2 (M : Nat) : List Ent := ⟨11, 11, 0, 9, sum9 M⟩ :: t11_1 M
theorem t11_2_ok (M : Nat) : AllOk (e M) (tblOf (t11_2 M)) := (t11_1_ok M).add ⟨11, 11, 0, 9, sum9 M⟩ (by kernel_rfl) (sok9 M)
def s (M : Nat) (p0 : D) : Option D :=
  (bd (F17.s FUEL) fun r1 => (cond (!r1.b) (some (db false)) (bd (F18.s FUEL p0) fun r2 => (cond (!r2.b) (some r1) (goS (st9 M) M ⟨p0, r1, 0, (da [(dl false []), (di 0), (di 0)])⟩ fun x => match x with | .e0 d25 d26 i27 d28 r29 r30 r31 => (some (db false)) | .e1 d25 d26 i27 d28 r29 r30 r31 => (some (db false)) | .e2 d25 d26 i27 d28 r29 r30 r31 => (some (db false)) | .e3 d32 d33 i34 d35 i36 d37 d38 d39 r40 => (some (db false)) | .e4 d32 d33 i34 d35 i36 d37 d38 d39 r40 => (some (db false)) | .e5 d25 d26 i27 d28 r29 r30 r31 => (some (db false)) | .e6 d25 d26 i27 d28 r29 r30 r31 => (some (db false)) | .e7 d32 d33 i34 d35 i36 d37 d38 d39 r40 => (some (db false)) | .e8 d32 d33 i34 d35 i36 d37 d38 d39 r40 => (some (db false)) | .e9 d25 d26 i27 d28 r29 r30 r31 => (some (db false)) | .e10 d32 d33 i34 d35 i36 d37 d38 d39 r40 => (some (db false)) | .e d32 d33 i34 d35 i36 d37 d38 d39 r40 => (some (db false)) | .e12 d25 d26 i27 d28 => (some d26))))))
theorem run (M : Nat) (p0 : D) : callS (e M) (tblOf (t11_2 M)) 12 (.fn 11) [.d (.slice 47) p0] [] (fun v H => finish ty [4] v H) = s M p0 := by kernel_rfl
noncomputable abbrev t (M : Nat) : List Ent := t11_2 M
theorem t_ok (M : Nat) : AllOk (e M) (tblOf (t M)) := t11_2_ok M
def c : Con := { run := fun ds => match ds with | [p0] => s FUEL p0 | _ => none, fresh := false, plain := true }
theorem fun_at : Tryd.prog.funcs[11]? = some Tryd.f11 := by kernel_rfl
theorem params : Tryd.f11.params.toList.map ty = [(.slice 47)] := by kernel_rfl
theorem results : Tryd.f11.resultTypes.toList = [4] := by kernel_rfl
theorem flat : Tryd.f11.resultTypes.toList.all (fun t => K.flat ty 20 (ty t)) = true := by kernel_rfl
theorem ok : ConOk (11, c) := by
  intro fn hfn
  obtain rfl : Tryd.f11 = fn := Option.some.inj (fun_at.symm.trans hfn)
  refine contract_flat (n := 20) hgl (fun _ => flat) (fun ds r hh0 hr => ?_)
  rw [params] at hh0
  obtain ⟨p0, ds0, rfl, h0, hh1⟩ := hass_cons hh0
  obtain rfl := hass_nil hh1
  refine ⟨e FUEL, DEPTH, tblOf (t FUEL), envOk (allCons F17.ok (allCons F18.ok (allCons F20.ok (allCons F25.ok (allCons F27.ok (allCons F28.ok allNil)))))) allNil, rfl, t_ok FUEL, ?_⟩
  rw [params, results]
  exact (run FUEL p0).trans hr
end F11
end Go.AM.SD
namespace Go.AM.SD
open Go Go.AM
def x16_11_0e1 (s : F11.S16_11_0) : F11.X16_11_0 := .e1 s.d32 s.d33 s.i34 s.d35 s.i36 s.d37 s.d38 s.d39
theorem strs_tot (n1 n2 : Bool) (l1 l2 : List ByteArray) (hl : l1.length ≤ 1048576) : ∃ b, F53.s FUEL (dl n1 (l1.map dS)) (dl n2 (l2.map dS)) = some (db b) := by
  unfold F53.s
  by_cases h : l1.length = l2.length
  · have e0 : neI (nI (dl n1 (l1.map dS)).elems.length) (nI (dl n2 (l2.map dS)).elems.length) = false := by simp [h]
    rw [e0, cond_false]
    refine goS_rule (fun t : F53.S4 => ∃ k : Nat, t = ⟨dl n1 (l1.map dS), dl n2 (l2.map dS), nI l1.length, (k : Int)⟩ ∧ k ≤ l1.length) (fun t => l1.length - t.i4.toNat) (fun o => ∃ b, o = some (db b)) ?_ _ _ ⟨0, by simp, by omega⟩ (by simp [FUEL]; omega)
    rintro _ rec ⟨k, rfl, hk⟩ hrec
    simp only [F53.st4]
    by_cases h1 : k < l1.length
    · have hadd : ad .i64 (k : Int) 1 = ((k + 1 : Nat) : Int) := by rw [ad64 (by omega) (by omega)]; rfl
      have e1 : ltI (k : Int) (nI l1.length) = true := by simp; omega
      have e2 : inb (k : Int) (dl n1 (l1.map dS)).elems.length = true := by simp; omega
      have e3 : inb (k : Int) (dl n2 (l2.map dS)).elems.length = true := by simp; omega
      rw [e1, e2, e3, cond_true, cond_true, cond_true, hadd]
      generalize (!eqS (ix (dl n1 (l1.map dS)).elems (k : Int).toNat).s (ix (dl n2 (l2.map dS)).elems (k : Int).toNat).s) = c
      cases c with
      | true => exact ⟨false, rfl⟩
      | false => exact hrec _ ⟨k + 1, rfl, by omega⟩ (by simp; omega)
    · have e1 : ltI (k : Int) (nI l1.length) = false := by simp; omega
      rw [e1]
      exact ⟨true, rfl⟩
  · have e0 : neI (nI (dl n1 (l1.map dS)).elems.length) (nI (dl n2 (l2.map dS)).elems.length) = true := by simp; omega
    rw [e0]
    exact ⟨false, rfl⟩
theorem file_tot (f g : Fl) (hl : f.holds.length ≤ 1048576) : ∃ b, F32.s FUEL f.enc g.enc = some (db b) := by
  unfold F32.s
  have key : ∃ b, (cond (f.sealed == g.sealed) (cond (eqI (f.enc.at 4).i (g.enc.at 4).i) (bd (F53.s FUEL (f.enc.at 5) (g.enc.at 5)) fun r2 => some r2) (some (db false))) (some (db false))) = some (db b) := by
    generalize (f.sealed == g.sealed) = c4
    cases c4 with
    | false => exact ⟨false, rfl⟩
    | true =>
      rw [cond_true]
      generalize eqI (f.enc.at 4).i (g.enc.at 4).i = c5
      cases c5 with
      | false => exact ⟨false, rfl⟩
      | true =>
        rw [cond_true]
        obtain ⟨b, hb⟩ := strs_tot f.nn g.nn f.holds g.holds hl
        exact ⟨b, bdS hb rfl⟩
  generalize eqI (f.enc.at 0).i (g.enc.at 0).i = c1
  cases c1 with
  | false => exact ⟨false, rfl⟩
  | true =>
    rw [cond_true]
    generalize eqS (f.enc.at 1).s (g.enc.at 1).s = c2
    cases c2 with
    | false => exact ⟨false, rfl⟩
    | true =>
      rw [cond_true]
      generalize eqS (f.enc.at 2).s (g.enc.at 2).s = c3
      cases c3 with
      | false => exact ⟨false, rfl⟩
      | true =>
        rw [cond_true]
        obtain ⟨b, hb⟩ := key
        refine ⟨b, bdS (x := db (f.sealed == g.sealed)) ?_ hb⟩
        have h3 : f.enc.at 3 = db f.sealed := rfl
        have h3g : g.enc.at 3 = db g.sealed := rfl
        rw [h3, h3g, show eqDepth = 15 + 1 from rfl, eqv_bool]
theorem state_tot {s t : St} (hs : StOk s) : ∃ b, F25.s FUEL s.enc t.enc = some (db b) := by
  have hl := hs.len
  unfold F25.s
  have h0 : s.enc.at 0 = dl s.nn (s.files.map Fl.enc) := rfl
  have h0t : t.enc.at 0 = dl t.nn (t.files.map Fl.enc) := rfl
  rw [h0, h0t]
  generalize eqI (s.enc.at 1).i (t.enc.at 1).i = c1
  cases c1 with
  | false => exact ⟨false, rfl⟩
  | true =>
    rw [cond_true]
    generalize eqI (s.enc.at 2).i (t.enc.at 2).i = c2
    cases c2 with
    | false => exact ⟨false, rfl⟩
    | true =>
      rw [cond_true]
      by_cases h : s.files.length = t.files.length
      · have e0 : neI (nI (dl s.nn (s.files.map Fl.enc)).elems.length) (nI (dl t.nn (t.files.map Fl.enc)).elems.length) = false := by simp [h]
        rw [e0, cond_false]
        refine goS_rule (fun u : F25.S43_4 => ∃ k : Nat, u = ⟨dl t.nn (t.files.map Fl.enc), dl s.nn (s.files.map Fl.enc), nI s.files.length, (k : Int), s.enc, t.enc⟩ ∧ k ≤ s.files.length) (fun u => s.files.length - u.i4.toNat) (fun o => ∃ b, o = some (db b)) ?_ _ _ ⟨0, by simp, by omega⟩ (by simp [FUEL]; omega)
        rintro _ rec ⟨k, rfl, hk⟩ hrec
        simp only [F25.st43_4]
        by_cases h1 : k < s.files.length
        · have hadd : ad .i64 (k : Int) 1 = ((k + 1 : Nat) : Int) := by rw [ad64 (by omega) (by omega)]; rfl
          have e1 : ltI (k : Int) (nI s.files.length) = true := by simp; omega
          have e2 : inb (k : Int) (dl s.nn (s.files.map Fl.enc)).elems.length = true := by simp; omega
          have e3 : inb (k : Int) (dl t.nn (t.files.map Fl.enc)).elems.length = true := by simp; omega
          have h1t : k < t.files.length := by omega
          have g1 : ix (dl s.nn (s.files.map Fl.enc)).elems (k : Int).toNat = s.files[k].enc := by simp only [elems_slice, Int.toNat_natCast, ix_map h1]
          have g2 : ix (dl t.nn (t.files.map Fl.enc)).elems (k : Int).toNat = t.files[k].enc := by simp only [elems_slice, Int.toNat_natCast, ix_map h1t]
          have hho := (hs.files _ (List.getElem_mem h1)).hold
          obtain ⟨b, hb⟩ := file_tot s.files[k] t.files[k] (by omega)
          rw [e1, e2, e3, cond_true, cond_true, cond_true, g1, g2, hb, bd_some, hadd]
          cases b with
          | false => exact ⟨false, rfl⟩
          | true => exact hrec _ ⟨k + 1, rfl, by omega⟩ (by simp; omega)
        · have e1 : ltI (k : Int) (nI s.files.length) = false := by simp; omega
          rw [e1]
          exact ⟨true, rfl⟩
      · have e0 : neI (nI (dl s.nn (s.files.map Fl.enc)).elems.length) (nI (dl t.nn (t.files.map Fl.enc)).elems.length) = true := by simp; omega
        rw [e0]
        exact ⟨false, rfl⟩
theorem loop16 (nnv : Bool) (evs : List Ev) (hv : ∀ e ∈ evs, evB e = true ∧ e.name.size ≤ 1000 ∧ e.sum.length = 32) (hl : evs.length ≤ 1000) (s0 : F11.S16_11_0) (h35 : s0.d35 = dl nnv (evs.map Ev.enc)) (h36 : s0.i36 = 0)
    (K : F11.X16_11_0 → Option D) (R : Option D) (hK : K (x16_11_0e1 { s0 with i36 := (evs.length : Int) }) = R) : goS (F11.st16_11_0 FUEL) FUEL s0 K = R := by
  refine goS_rule (fun t : F11.S16_11_0 => ∃ k : Nat, t = { s0 with i36 := (k : Int) } ∧ k ≤ evs.length) (fun t => evs.length - t.i36.toNat) (fun o => o = R) ?_ _ _ ⟨0, ?_, by omega⟩ (by rw [h36]; simp [FUEL]; omega)
  · rintro _ rec ⟨k, rfl, hk⟩ hrec
    simp only [F11.st16_11_0, h35]
    by_cases h1 : k < evs.length
    · have hadd : ad .i64 (k : Int) 1 = ((k + 1 : Nat) : Int) := by rw [ad64 (by omega) (by omega)]; rfl
      obtain ⟨v1, v2, v3⟩ := hv _ (List.getElem_mem h1)
      refine ct (by simp; omega) (ct (by simp; omega) ?_)
      simp only [elems_slice, Int.toNat_natCast, ix_map h1]
      refine bdS (valid_spec evs[k] (by omega) v3) (cf (by rw [v1]; rfl) ?_)
      rw [hadd]
      refine hrec _ ⟨k + 1, ?_, by omega⟩ ?_
      · simp only [h35]
      · simp; omega
    · have hkk : k = evs.length := by omega
      subst hkk
      refine cf (by simp) ?_
      unfold x16_11_0e1 at hK
      simp only [h35] at hK ⊢
      exact hK
  · cases s0
    simp only at h36
    subst h36
    rfl
theorem stays_law (nn : Bool) (l : List Mo) (hs : ∀ o ∈ l, o.ok) : F11.s FUEL (dl nn (l.map Mo.enc)) = some (db true) := by
  unfold F11.s
  refine bdS works_M (cf rfl (bdS (few_specM nn l) ?_))
  cases hf : fewM l with
  | false => exact ct rfl rfl
  | true =>
    obtain ⟨hlen, hl⟩ := few_okM hf hs
    refine cf rfl ?_
    refine goS_rule (fun t : F11.S9 => ∃ (k : Nat) (s : St), t = ⟨dl nn (l.map Mo.enc), db true, (k : Int), s.enc⟩ ∧ k ≤ l.length ∧ StOk s) (fun t => l.length - t.i27.toNat) (fun o => o = some (db true)) ?_ _ _ ⟨0, emptyS, rfl, by omega, emptyS_ok⟩ (by simp [FUEL]; omega)
    rintro _ rec ⟨k, s, rfl, hk, hso⟩ hrec
    simp only [F11.st9]
    by_cases h1 : k < l.length
    · have hadd : ad .i64 (k : Int) 1 = ((k + 1 : Nat) : Int) := by rw [ad64 (by omega) (by omega)]; rfl
      have ho := hl _ (List.getElem_mem h1)
      refine ct (by simp; omega) (ct (by simp; omega) ?_)
      simp only [elems_slice, Int.toNat_natCast, ix_map h1]
      have hto := do_ok (sum := shaL) hso ho
      have hevs := do_events (sum := shaL) shaL_len hso ho
      have helen := do_evs_len (sum := shaL) (o := l[k]) hso
      have hst := do_still (sum := shaL) (s := s) (o := l[k])
      refine bdS (do_specM s l[k] hso ho) ?_
      generalize doM shaL s l[k] = r at hto hevs helen hst
      obtain ⟨b, hb, hbs⟩ : ∃ b, F25.s FUEL s.enc r.st.enc = some (db b) ∧ (r.st = s → b = true) := by
        by_cases e : r.st = s
        · rw [e]; exact ⟨true, same_state hso, fun _ => rfl⟩
        · obtain ⟨b, h⟩ := state_tot (t := r.st) hso
          exact ⟨b, h, fun e' => absurd e' e⟩
      refine bdS hb (bdS (valid_state hto) (cf rfl ?_))
      have fin : ∀ K' : F11.X16_11_0 → Option D, (∀ d32 d33 i34 d35 i36 d37 d38 d39, K' (.e1 d32 d33 i34 d35 i36 d37 d38 d39) = rec ⟨d32, d33, ad .i64 i34 1, d38⟩) →
          goS (F11.st16_11_0 FUEL) FUEL ⟨dl nn (l.map Mo.enc), db true, (k : Int), dl r.nn (r.evs.map Ev.enc), 0, s.enc, r.st.enc, r.an.enc⟩ K' = some (db true) := by
        intro K' hK'
        refine loop16 r.nn r.evs hevs (by omega) _ rfl rfl _ _ ?_
        unfold x16_11_0e1
        dsimp only
        rw [hK', hadd]
        exact hrec _ ⟨k + 1, r.st, rfl, by omega, hto⟩ (by simp; omega)
      by_cases he : r.an.err = 0
      · refine cf (by show neI r.an.err 0 = false; simpa using he) ?_
        by_cases hv : r.evs = []
        · have hb1 := hbs (hst.2 hv)
          subst hb1
          refine ct (by show eqI (nI (r.evs.map Ev.enc).length) 0 = true; rw [hv]; rfl) (cf rfl (cf (by show neI r.an.err 0 = false; simpa using he) ?_))
          exact fin _ (fun _ _ _ _ _ _ _ _ => rfl)
        · refine cf (by show eqI (nI (r.evs.map Ev.enc).length) 0 = false; simpa using hv) (cf (by show neI r.an.err 0 = false; simpa using he) ?_)
          exact fin _ (fun _ _ _ _ _ _ _ _ => rfl)
      · have hv := hst.1 he
        have hb1 := hbs (hst.2 hv)
        subst hb1
        refine ct (by show neI r.an.err 0 = true; simpa using he) (cf rfl (ct (by show neI r.an.err 0 = true; simpa using he) (cf (by show gtI (nI (r.evs.map Ev.enc).length) 0 = false; rw [hv]; rfl) ?_)))
        exact fin _ (fun _ _ _ _ _ _ _ _ => rfl)
    · exact cf (by simp; omega) rfl
theorem pure11 : ∀ ds, D.hass ty ds [(.slice 47)] → D.wfs ds → F11.c.run ds = some (.bool true) := by
  intro ds h hw
  obtain ⟨d0, _, rfl, h0, h⟩ := hassC h
  obtain rfl := hass0 h
  simp only [D.wfs] at hw
  obtain ⟨nn, l, rfl, hl⟩ := mos_of h0 hw.1
  exact stays_law nn l hl
end Go.AM.SD
