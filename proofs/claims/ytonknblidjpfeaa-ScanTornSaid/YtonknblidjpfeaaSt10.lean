/- Part 10 of the proof: the abstract machine, what the functions compute, and plain laws over that. -/
import Derived.Test.YtonknblidjpfeaaSt9
import Derived.ProofKit
import Derived.LaidMore
import Derived.OpenShut
import Derived.Stop.Joined
import Derived.PinnedBridge
import Derived.Lib.LaidU8
import Derived.SevenTiedAt
import Derived.SizedLaws
set_option linter.all false
set_option linter.unusedSimpArgs false
set_option linter.unusedVariables false
set_option linter.unusedSectionVars false
namespace Go.AM.SP
open Go Go.AM Go.Proofs Go.RowKit
namespace F13
def k0_ : K := (.struct [23, 24])
def cons : List (Nat × Con) := []
def exts : List (Nat × Ext) := []
def h : List (Nat × Nat × Hint) := [(13, 3, { live := [3, 5, 9, 10, 11], out := some [3, 5] }), (13, 6, { unk := true }), (24, 1, { unk := true }), (36, 2, { live := [0, 1, 7, 8], out := some [4] })]
def q0_ : PO := (.var k0_ (.d k0_ .x))
noncomputable def e (M : Nat) : Env := env cons exts h M
structure S3 where
  (d1 : D) (i2 i3 : Int) (d4 : D) (m5 : List (D × D))
inductive X3 where
  | e0 (d4 : D) (m5 : List (D × D))
def st3 (M : Nat) : S3 → (S3 → Option D) → (X3 → Option D) → Option D
  | ⟨d1, i2, i3, d4, m5⟩, rec, K => (cond (ltI i3 i2) (cond (inb i3 d1.elems.length) (cond (eqI (((ix d1.elems i3.toNat).at 2).at 0).i 0) (bdq (assoc ty (.struct [67, 67]) (da [(da [((ix d1.elems i3.toNat).at 0), ((ix d1.elems i3.toNat).at 1)]), (da [(((ix d1.elems i3.toNat).at 2).at 2), (((ix d1.elems i3.toNat).at 2).at 3)])]) m5 0) fun q6 => (cond (eqT (D.eqv ty eqDepth (da [(da [((ix d1.elems i3.toNat).at 0), ((ix d1.elems i3.toNat).at 1)]), (da [(((ix d1.elems i3.toNat).at 2).at 2), (((ix d1.elems i3.toNat).at 2).at 3)])]) (da [(da [((ix d1.elems i3.toNat).at 0), ((ix d1.elems i3.toNat).at 1)]), (da [(((ix d1.elems i3.toNat).at 2).at 2), (((ix d1.elems i3.toNat).at 2).at 3)])]) (.struct [67, 67]))) (bdq (assoc ty (.struct [67, 67]) (da [(da [((ix d1.elems i3.toNat).at 0), ((ix d1.elems i3.toNat).at 1)]), (da [(((ix d1.elems i3.toNat).at 2).at 2), (((ix d1.elems i3.toNat).at 2).at 3)])]) m5 0) fun q7 => (cond (inb (nI (entryAt m5 q7)) (entrySet m5 (da [(da [((ix d1.elems i3.toNat).at 0), ((ix d1.elems i3.toNat).at 1)]), (da [(((ix d1.elems i3.toNat).at 2).at 2), (((ix d1.elems i3.toNat).at 2).at 3)])]) (entryVal m5 (di 0) q7) q7).length) (rec ⟨d1, i2, (ad .i64 i3 1), d4, (setVal (entrySet m5 (da [(da [((ix d1.elems i3.toNat).at 0), ((ix d1.elems i3.toNat).at 1)]), (da [(((ix d1.elems i3.toNat).at 2).at 2), (((ix d1.elems i3.toNat).at 2).at 3)])]) (entryVal m5 (di 0) q7) q7) (entryAt m5 q7) (di (ad .i64 (entryVal m5 (di 0) q6).i 1)))⟩) none)) none)) (rec ⟨d1, i2, (ad .i64 i3 1), d4, m5⟩)) none) (K (.e0 d4 m5)))
def ex3 (k : Kont) : X3 → Option D
  | .e0 d4 m5 => k (.exit 0) ((us 3 ((.ptr 0 [] k0_) :: (us 1 ((.ptr 2 [] (.map 69 3)) :: (us 37 [])))))) [(.var k0_ (vk k0_ d4)), (.map 69 3 m5), (.var (.map 69 3) (.map 1))]
def lv3 : S3 → List Leaf
  | ⟨d1, i2, i3, d4, m5⟩ => [.d d1, .i i2, .i i3, .d d4, .m m5]
def of3 : List Leaf → Option S3
  | [.d d1, .i i2, .i i3, .d d4, .m m5] => some ⟨d1, i2, i3, d4, m5⟩
  | _ => none
def ps3 : List PV := ((up 3 ((.ptr 0 [] k0_) :: (up 1 ((.ptr 2 [] (.map 69 3)) :: (up 3 ((.d (.slice 45) .x) :: (.d (.int .i64) (.int .i64)) :: (.d (.int .i64) (.int .i64)) :: (up 31 []))))))))
def qs3 : List PO := [q0_, (.map 69 3), (.var (.map 69 3) (.map 1))]
noncomputable def t1 (M : Nat) : List Ent := ⟨13, 11, 0, 3, sumS [3, 5, 9, 10, 11] ps3 qs3 [] of3 (st3 M) ex3 M⟩ :: []
theorem t1_ok (M : Nat) : AllOk (e M) (tblOf (t1 M)) := AllOk.addS (n0 := 3) (lv := lv3) AllOk.nil (by kernel_rfl) rfl (by intro ls s h; unfold of3 at h; (repeat' split at h) <;> simp at h; subst h; rfl) (by intro s; kernel_rfl) (by intro s; kernel_rfl) (by intro s nx k; kernel_rfl)
structure S36_2 where
  (d8 : D) (i9 i10 : Int) (d11 : D) (m12 : List (D × D))
inductive X36_2 where
  | e0 (d8 : D) (i10 : Int) (d11 : D) (m12 : List (D × D))
  | e1 (d11 : D) (m12 : List (D × D))
def st36_2 (M : Nat) : S36_2 → (S36_2 → Option D) → (X36_2 → Option D) → Option D
  | ⟨d8, i9, i10, d11, m12⟩, rec, K => (cond (ltI i10 i9) (cond (inb i10 d8.elems.length) (bdq (assoc ty (.struct [67, 67]) (da [(da [((ix d8.elems i10.toNat).at 2), ((ix d8.elems i10.toNat).at 3)]), (da [((ix d8.elems i10.toNat).at 1), ((ix d8.elems i10.toNat).at 0)])]) m12 0) fun q13 => (cond (eqI (entryVal m12 (di 0) q13).i 0) (K (.e0 d8 i10 d11 m12)) (rec ⟨d8, i9, (ad .i64 i10 1), d11, m12⟩))) none) (K (.e1 d11 m12)))
def ex36_2 (k : Kont) : X36_2 → Option D
  | .e0 d8 i10 d11 m12 => k .ret ((us 4 ((vi i10) :: (us 14 [])))) [(.var k0_ (vk k0_ d11)), (.map 69 3 m12), (.var (.map 69 3) (.map 1)), (.var (.struct [3, 3, 3, 3]) (vk (.struct [3, 3, 3, 3]) (ix d8.elems i10.toNat)))]
  | .e1 d11 m12 => k (.exit 0) ((us 19 [])) [(.var k0_ (vk k0_ d11)), (.map 69 3 m12), (.var (.map 69 3) (.map 1))]
def lv36_2 : S36_2 → List Leaf
  | ⟨d8, i9, i10, d11, m12⟩ => [.d d8, .i i9, .i i10, .d d11, .m m12]
def of36_2 : List Leaf → Option S36_2
  | [.d d8, .i i9, .i i10, .d d11, .m m12] => some ⟨d8, i9, i10, d11, m12⟩
  | _ => none
def ps36_2 : List PV := ((.d (.slice 58) .x) :: (.func 24 [] [(.ptr 2 [] (.map 69 3))]) :: (up 5 ((.d (.int .i64) (.int .i64)) :: (.d (.int .i64) (.int .i64)) :: (up 10 []))))
def qs36_2 : List PO := [q0_, (.map 69 3), (.var (.map 69 3) (.map 1))]
noncomputable def t (M : Nat) : List Ent := ⟨36, 9, 3, 2, sumS [0, 1, 7, 8] ps36_2 qs36_2 [] of36_2 (st36_2 M) ex36_2 M⟩ :: t1 M
theorem t_ok (M : Nat) : AllOk (e M) (tblOf (t M)) := AllOk.addS (n0 := 3) (lv := lv36_2) (t1_ok M) (by kernel_rfl) rfl (by intro ls s h; unfold of36_2 at h; (repeat' split at h) <;> simp at h; subst h; rfl) (by intro s; kernel_rfl) (by intro s; kernel_rfl) (by intro s nx k; kernel_rfl)
def s (M : Nat) (p0 : D) (p1 : D) : Option D :=
  (goS (st3 M) M ⟨p0, (nI p0.elems.length), 0, p1, []⟩ fun x => match x with | .e0 d4 m5 => (goS (st36_2 M) M ⟨(d4.at 0), (nI (d4.at 0).elems.length), 0, d4, m5⟩ fun x => match x with | .e0 d8 i10 d11 m12 => (some (db (!(geI i10 0)))) | .e1 d11 m12 => (some (db true))))
theorem run (M : Nat) (p0 : D) (p1 : D) : callS (e M) (tblOf (t M)) 12 (.fn 13) [.d (.slice 45) p0, .d (.struct [23, 24]) p1] [] (fun v H => finish ty [4] v H) = s M p0 p1 := by kernel_rfl
def c : Con := { run := fun ds => match ds with | [p0, p1] => s FUEL p0 p1 | _ => none, plain := true }
theorem ok : ConOk (13, c) := mkC Try.f13 [(.slice 45), (.struct [23, 24])] [4] (by kernel_rfl) (by kernel_rfl) (by kernel_rfl) (by kernel_rfl) allNil allNil (t_ok FUEL) fun a => run FUEL a.1 a.2.1
end F13
namespace F17
def k1_ : K := (.struct [26, 3, 22, 3])
def cons : List (Nat × Con) := [(13, F13.c), (22, F22.c)]
def exts : List (Nat × Ext) := [(27, sortX 3)]
def h : List (Nat × Nat × Hint) := [(17, 4, { live := [0, 2, 4, 5, 13, 14, 15], rows := [(5, 3)], out := some [0, 2, 4, 5] }), (17, 13, { live := [0, 2, 4, 48, 49, 50], out := some [2, 3, 4] }), (28, 1, { live := [0, 2, 3], out := some [] }), (29, 4, { live := [0, 3], out := some [0, 2] }), (29, 9, { live := [0, 3, 4, 5], out := some [0, 3] })]
noncomputable def e (M : Nat) : Env := env cons exts h M
structure S4 where
  (d1 : D) (n2 n3 : Nat) (d4 : D) (i5 i6 : Int) (b7 : Bool) (l8 : List D) (b9 : Bool) (l10 : List D) (i11 : Int) (b12 : Bool) (l13 : List D) (i14 : Int) (b15 : Bool) (l16 : List D) (b17 : Bool) (l18 : List D) (i19 : Int) (b20 : Bool) (l21 : List D) (i22 : Int) (b23 : Bool) (l24 : List D)
inductive X4 where
  | e0 (d1 : D) (n2 n3 : Nat) (b7 : Bool) (l8 : List D) (b9 : Bool) (l10 : List D) (i11 : Int) (b12 : Bool) (l13 : List D) (i14 : Int) (b15 : Bool) (l16 : List D) (b17 : Bool) (l18 : List D) (i19 : Int) (b20 : Bool) (l21 : List D) (i22 : Int) (b23 : Bool) (l24 : List D)
def st4 (M : Nat) : S4 → (S4 → Option D) → (X4 → Option D) → Option D
  | ⟨d1, n2, n3, d4, i5, i6, b7, l8, b9, l10, i11, b12, l13, i14, b15, l16, b17, l18, i19, b20, l21, i22, b23, l24⟩, rec, K => (cond (ltI i6 i5) (cond (inb i6 d4.elems.length) (cond (eqI (((ix d4.elems i6.toNat).at 2).at 0).i 1) (cond (geI (((ix d4.elems i6.toNat).at 2).at 1).i 0) (cond (mx (n3 + 1)) (rec ⟨d1, 0, (n3 + 1), d4, i5, (ad .i64 i6 1), b7, l8, b9, l10, i11, b12, l13, i14, b15, l16, b17, l18, i19, b20, l21, (maxi i22 (((ix d4.elems i6.toNat).at 2).at 1).i), (b23 || true), (ap ((l24.drop n2).take n3) [(((ix d4.elems i6.toNat).at 2).at 1)])⟩) none) (rec ⟨d1, n2, n3, d4, i5, (ad .i64 i6 1), b7, l8, b9, l10, i11, b12, l13, i14, b15, l16, b17, l18, i19, b20, l21, (maxi i22 (((ix d4.elems i6.toNat).at 2).at 1).i), b23, l24⟩)) (rec ⟨d1, n2, n3, d4, i5, (ad .i64 i6 1), b7, l8, b9, l10, i11, b12, l13, i14, b15, l16, b17, l18, i19, b20, l21, (maxi i22 (((ix d4.elems i6.toNat).at 2).at 1).i), b23, l24⟩)) none) (K (.e0 d1 n2 n3 b7 l8 b9 l10 i11 b12 l13 i14 b15 l16 b17 l18 i19 b20 l21 i22 b23 l24)))
def ex4 (k : Kont) : X4 → Option D
  | .e0 d1 n2 n3 b7 l8 b9 l10 i11 b12 l13 i14 b15 l16 b17 l18 i19 b20 l21 i22 b23 l24 => k (.exit 0) ((vk (.slice 45) d1) :: (us 1 ((.ptr 0 [] k1_) :: (us 1 ((.ptr 1 [] k1_) :: (.sref 2 n2 n3) :: (us 70 [])))))) [(.var k1_ (vk k1_ (da [(da [(dl b7 l8), (dl b9 l10)]), (di i11), (dl b12 l13), (di i14)]))), (.var k1_ (vk k1_ (da [(da [(dl b15 l16), (dl b17 l18)]), (di i19), (dl b20 l21), (di i22)]))), (.row 3 true b23 l24)]
def lv4 : S4 → List Leaf
  | ⟨d1, n2, n3, d4, i5, i6, b7, l8, b9, l10, i11, b12, l13, i14, b15, l16, b17, l18, i19, b20, l21, i22, b23, l24⟩ => [.d d1, .n n2, .n n3, .d d4, .i i5, .i i6, .b b7, .l l8, .b b9, .l l10, .i i11, .b b12, .l l13, .i i14, .b b15, .l l16, .b b17, .l l18, .i i19, .b b20, .l l21, .i i22, .b b23, .l l24]
def of4 : List Leaf → Option S4
  | [.d d1, .n n2, .n n3, .d d4, .i i5, .i i6, .b b7, .l l8, .b b9, .l l10, .i i11, .b b12, .l l13, .i i14, .b b15, .l l16, .b b17, .l l18, .i i19, .b b20, .l l21, .i i22, .b b23, .l l24] => some ⟨d1, n2, n3, d4, i5, i6, b7, l8, b9, l10, i11, b12, l13, i14, b15, l16, b17, l18, i19, b20, l21, i22, b23, l24⟩
  | _ => none
def ps4 : List PV := ((.d (.slice 45) .x) :: (up 1 ((.ptr 0 [] k1_) :: (up 1 ((.ptr 1 [] k1_) :: (.sref 2) :: (up 7 ((.d (.slice 45) .x) :: (.d (.int .i64) (.int .i64)) :: (.d (.int .i64) (.int .i64)) :: (up 60 []))))))))
def qs4 : List PO := [(.var k1_ (.d k1_ (.agg [(.agg [.slice, .slice]), (.int .i64), .slice, (.int .i64)]))), (.var k1_ (.d k1_ (.agg [(.agg [.slice, .slice]), (.int .i64), .slice, (.int .i64)]))), (.row 3 true)]
noncomputable def t1 (M : Nat) : List Ent := ⟨17, 11, 0, 4, sumS [0, 2, 4, 5, 13, 14, 15] ps4 qs4 [(5, 2)] of4 (st4 M) ex4 M⟩ :: []
theorem t1_ok (M : Nat) : AllOk (e M) (tblOf (t1 M)) := AllOk.addS (n0 := 3) (lv := lv4) AllOk.nil (by kernel_rfl) rfl (by intro ls s h; unfold of4 at h; (repeat' split at h) <;> simp at h; subst h; rfl) (by intro s; kernel_rfl) (by intro s; kernel_rfl) (by intro s nx k; kernel_rfl)
structure S28_1 where
  (n25 n26 : Nat) (i27 i28 : Int) (b29 : Bool) (l30 : List D) (b31 : Bool) (l32 : List D) (i33 : Int) (b34 : Bool) (l35 : List D) (i36 : Int) (b37 : Bool) (l38 : List D) (b39 : Bool) (l40 : List D) (i41 : Int) (b42 : Bool) (l43 : List D) (i44 : Int) (b45 : Bool) (l46 : List D)
inductive X28_1 where
  | e0 (b29 : Bool) (l30 : List D) (b31 : Bool) (l32 : List D) (i33 : Int) (b34 : Bool) (l35 : List D) (i36 : Int) (b37 : Bool) (l38 : List D) (b39 : Bool) (l40 : List D) (i41 : Int) (b42 : Bool) (l43 : List D) (i44 : Int) (b45 : Bool) (l46 : List D)
def st28_1 (M : Nat) : S28_1 → (S28_1 → Option D) → (X28_1 → Option D) → Option D
  | ⟨n25, n26, i27, i28, b29, l30, b31, l32, i33, b34, l35, i36, b37, l38, b39, l40, i41, b42, l43, i44, b45, l46⟩, rec, K => (cond (ltI i27 i28) (cond (inb i28 n26) (cond (inb i27 n26) (cond (inb i27 n26) (cond (inb i28 n26) (rec ⟨n25, n26, (ad .i64 i27 1), (sb .i64 i28 1), b29, l30, b31, l32, i33, b34, l35, i36, b37, l38, b39, l40, i41, b42, l43, i44, b45, ((l46.set (n25 + i27.toNat) (ix l46 (n25 + i28.toNat))).set (n25 + i28.toNat) (ix l46 (n25 + i27.toNat)))⟩) none) none) none) none) (K (.e0 b29 l30 b31 l32 i33 b34 l35 i36 b37 l38 b39 l40 i41 b42 l43 i44 b45 l46)))
def ex28_1 (k : Kont) : X28_1 → Option D
  | .e0 b29 l30 b31 l32 i33 b34 l35 i36 b37 l38 b39 l40 i41 b42 l43 i44 b45 l46 => k (.exit 0) ((us 28 [])) [(.var k1_ (vk k1_ (da [(da [(dl b29 l30), (dl b31 l32)]), (di i33), (dl b34 l35), (di i36)]))), (.var k1_ (vk k1_ (da [(da [(dl b37 l38), (dl b39 l40)]), (di i41), (dl b42 l43), (di i44)]))), (.row 3 true b45 l46)]
def lv28_1 : S28_1 → List Leaf
  | ⟨n25, n26, i27, i28, b29, l30, b31, l32, i33, b34, l35, i36, b37, l38, b39, l40, i41, b42, l43, i44, b45, l46⟩ => [.n n25, .n n26, .i i27, .i i28, .b b29, .l l30, .b b31, .l l32, .i i33, .b b34, .l l35, .i i36, .b b37, .l l38, .b b39, .l l40, .i i41, .b b42, .l l43, .i i44, .b b45, .l l46]
def of28_1 : List Leaf → Option S28_1
  | [.n n25, .n n26, .i i27, .i i28, .b b29, .l l30, .b b31, .l l32, .i i33, .b b34, .l l35, .i i36, .b b37, .l l38, .b b39, .l l40, .i i41, .b b42, .l l43, .i i44, .b b45, .l l46] => some ⟨n25, n26, i27, i28, b29, l30, b31, l32, i33, b34, l35, i36, b37, l38, b39, l40, i41, b42, l43, i44, b45, l46⟩
  | _ => none
def ps28_1 : List PV := ((.sref 2) :: (up 1 ((.d (.int .i64) (.int .i64)) :: (.d (.int .i64) (.int .i64)) :: (up 24 []))))
def qs28_1 : List PO := [(.var k1_ (.d k1_ (.agg [(.agg [.slice, .slice]), (.int .i64), .slice, (.int .i64)]))), (.var k1_ (.d k1_ (.agg [(.agg [.slice, .slice]), (.int .i64), .slice, (.int .i64)]))), (.row 3 true)]
noncomputable def t2 (M : Nat) : List Ent := ⟨28, 10, 3, 1, sumS [0, 2, 3] ps28_1 qs28_1 [] of28_1 (st28_1 M) ex28_1 M⟩ :: t1 M
theorem t2_ok (M : Nat) : AllOk (e M) (tblOf (t2 M)) := AllOk.addS (n0 := 3) (lv := lv28_1) (t1_ok M) (by kernel_rfl) rfl (by intro ls s h; unfold of28_1 at h; (repeat' split at h) <;> simp at h; subst h; rfl) (by intro s; kernel_rfl) (by intro s; kernel_rfl) (by intro s nx k; kernel_rfl)
structure S13 where
  (d47 : D) (n48 n49 : Nat) (i50 i51 : Int) (b52 : Bool) (l53 : List D) (b54 : Bool) (l55 : List D) (i56 : Int) (b57 : Bool) (l58 : List D) (i59 : Int) (b60 : Bool) (l61 : List D) (b62 : Bool) (l63 : List D) (i64 : Int) (b65 : Bool) (l66 : List D) (i67 : Int) (b68 : Bool) (l69 : List D)
inductive X13 where
  | e0 (n48 : Nat) (i51 i67 : Int) (b68 : Bool) (l69 : List D) (r70 : D)
  | e1 (b52 : Bool) (l53 : List D) (b54 : Bool) (l55 : List D) (i56 : Int) (b57 : Bool) (l58 : List D) (i59 : Int) (b60 : Bool) (l61 : List D) (b62 : Bool) (l63 : List D) (i64 : Int) (b65 : Bool) (l66 : List D) (i67 : Int) (b68 : Bool) (l69 : List D)
def st13 (M : Nat) : S13 → (S13 → Option D) → (X13 → Option D) → Option D
  | ⟨d47, n48, n49, i50, i51, b52, l53, b54, l55, i56, b57, l58, i59, b60, l61, b62, l63, i64, b65, l66, i67, b68, l69⟩, rec, K => (cond (ltI i51 i50) (cond (inb i51 n49) (bd (F22.s FUEL d47 (ix l69 (n48 + i51.toNat)).i) fun r70 => (cond (r70.at 2).b (bd (F13.s FUEL d47 (r70.at 0)) fun r71 => (cond r71.b (K (.e0 n48 i51 i67 b68 l69 r70)) (rec ⟨d47, n48, n49, i50, (ad .i64 i51 1), b52, l53, b54, l55, i56, b57, l58, i59, b60, l61, b62, l63, i64, b65, l66, i67, b68, l69⟩))) (rec ⟨d47, n48, n49, i50, (ad .i64 i51 1), b52, l53, b54, l55, i56, b57, l58, i59, b60, l61, b62, l63, i64, b65, l66, i67, b68, l69⟩))) none) (K (.e1 b52 l53 b54 l55 i56 b57 l58 i59 b60 l61 b62 l63 i64 b65 l66 i67 b68 l69)))
def ex13 (k : Kont) : X13 → Option D
  | .e0 n48 i51 i67 b68 l69 r70 => k .ret ((us 2 ((.ptr 0 [] k1_) :: (vb true) :: (.ptr 1 [] k1_) :: (us 71 [])))) [(.var k1_ (vk k1_ (da [(r70.at 0), (ix l69 (n48 + i51.toNat)), (r70.at 1), (di i67)]))), (.var k1_ (vk k1_ (da [(r70.at 0), (ix l69 (n48 + i51.toNat)), (r70.at 1), (di i67)]))), (.row 3 true b68 l69), (.var (.struct [23, 24]) (vk (.struct [23, 24]) (r70.at 0)))]
  | .e1 b52 l53 b54 l55 i56 b57 l58 i59 b60 l61 b62 l63 i64 b65 l66 i67 b68 l69 => k (.exit 2) ((us 2 ((.ptr 0 [] k1_) :: (us 1 ((.ptr 1 [] k1_) :: (us 71 [])))))) [(.var k1_ (vk k1_ (da [(da [(dl b52 l53), (dl b54 l55)]), (di i56), (dl b57 l58), (di i59)]))), (.var k1_ (vk k1_ (da [(da [(dl b60 l61), (dl b62 l63)]), (di i64), (dl b65 l66), (di i67)]))), (.row 3 true b68 l69)]
def lv13 : S13 → List Leaf
  | ⟨d47, n48, n49, i50, i51, b52, l53, b54, l55, i56, b57, l58, i59, b60, l61, b62, l63, i64, b65, l66, i67, b68, l69⟩ => [.d d47, .n n48, .n n49, .i i50, .i i51, .b b52, .l l53, .b b54, .l l55, .i i56, .b b57, .l l58, .i i59, .b b60, .l l61, .b b62, .l l63, .i i64, .b b65, .l l66, .i i67, .b b68, .l l69]
def of13 : List Leaf → Option S13
  | [.d d47, .n n48, .n n49, .i i50, .i i51, .b b52, .l l53, .b b54, .l l55, .i i56, .b b57, .l l58, .i i59, .b b60, .l l61, .b b62, .l l63, .i i64, .b b65, .l l66, .i i67, .b b68, .l l69] => some ⟨d47, n48, n49, i50, i51, b52, l53, b54, l55, i56, b57, l58, i59, b60, l61, b62, l63, i64, b65, l66, i67, b68, l69⟩
  | _ => none
def ps13 : List PV := ((.d (.slice 45) .x) :: (up 1 ((.ptr 0 [] k1_) :: (up 1 ((.ptr 1 [] k1_) :: (up 43 ((.sref 2) :: (.d (.int .i64) (.int .i64)) :: (.d (.int .i64) (.int .i64)) :: (up 25 []))))))))
def qs13 : List PO := [(.var k1_ (.d k1_ (.agg [(.agg [.slice, .slice]), (.int .i64), .slice, (.int .i64)]))), (.var k1_ (.d k1_ (.agg [(.agg [.slice, .slice]), (.int .i64), .slice, (.int .i64)]))), (.row 3 true)]
noncomputable def t3 (M : Nat) : List Ent := ⟨17, 11, 0, 13, sumS [0, 2, 4, 48, 49, 50] ps13 qs13 [] of13 (st13 M) ex13 M⟩ :: t2 M
theorem t3_ok (M : Nat) : AllOk (e M) (tblOf (t3 M)) := AllOk.addS (n0 := 3) (lv := lv13) (t2_ok M) (by kernel_rfl) rfl (by intro ls s h; unfold of13 at h; (repeat' split at h) <;> simp at h; subst h; rfl) (by intro s; kernel_rfl) (by intro s; kernel_rfl) (by intro s nx k; kernel_rfl)
structure S29_9 where
  (n93 n94 : Nat) (i95 : Int) (n96 n97 : Nat) (i98 : Int) (b99 : Bool) (l100 : List D) (b101 : Bool) (l102 : List D) (i103 : Int) (b104 : Bool) (l105 : List D) (i106 : Int) (b107 : Bool) (l108 : List D) (b109 : Bool) (l110 : List D) (i111 : Int) (b112 : Bool) (l113 : List D) (i114 : Int) (b115 : Bool) (l116 : List D)
inductive X29_9 where
  | e0 (n93 n94 : Nat) (i95 : Int) (b99 : Bool) (l100 : List D) (b101 : Bool) (l102 : List D) (i103 : Int) (b104 : Bool) (l105 : List D) (i106 : Int) (b107 : Bool) (l108 : List D) (b109 : Bool) (l110 : List D) (i111 : Int) (b112 : Bool) (l113 : List D) (i114 : Int) (b115 : Bool) (l116 : List D)
def st29_9 (M : Nat) : S29_9 → (S29_9 → Option D) → (X29_9 → Option D) → Option D
  | ⟨n93, n94, i95, n96, n97, i98, b99, l100, b101, l102, i103, b104, l105, i106, b107, l108, b109, l110, i111, b112, l113, i114, b115, l116⟩, rec, K => (cond (ltI i98 (nI n97)) (cond (inb i98 n97) (cond (inb (sb .i64 i98 1) n97) (cond (neI (ix l116 (n96 + i98.toNat)).i (ix l116 (n96 + (sb .i64 i98 1).toNat)).i) (cond (inb i98 n97) (cond (inb i95 n94) (rec ⟨n93, n94, (ad .i64 i95 1), n96, n97, (ad .i64 i98 1), b99, l100, b101, l102, i103, b104, l105, i106, b107, l108, b109, l110, i111, b112, l113, i114, b115, (l116.set (n93 + i95.toNat) (ix l116 (n96 + i98.toNat)))⟩) none) none) (rec ⟨n93, n94, i95, n96, n97, (ad .i64 i98 1), b99, l100, b101, l102, i103, b104, l105, i106, b107, l108, b109, l110, i111, b112, l113, i114, b115, l116⟩)) none) none) (K (.e0 n93 n94 i95 b99 l100 b101 l102 i103 b104 l105 i106 b107 l108 b109 l110 i111 b112 l113 i114 b115 l116)))
def ex29_9 (k : Kont) : X29_9 → Option D
  | .e0 n93 n94 i95 b99 l100 b101 l102 i103 b104 l105 i106 b107 l108 b109 l110 i111 b112 l113 i114 b115 l116 => k (.exit 2) ((.sref 2 n93 n94) :: (us 2 ((vi i95) :: (us 57 [])))) [(.var k1_ (vk k1_ (da [(da [(dl b99 l100), (dl b101 l102)]), (di i103), (dl b104 l105), (di i106)]))), (.var k1_ (vk k1_ (da [(da [(dl b107 l108), (dl b109 l110)]), (di i111), (dl b112 l113), (di i114)]))), (.row 3 true b115 l116)]
def lv29_9 : S29_9 → List Leaf
  | ⟨n93, n94, i95, n96, n97, i98, b99, l100, b101, l102, i103, b104, l105, i106, b107, l108, b109, l110, i111, b112, l113, i114, b115, l116⟩ => [.n n93, .n n94, .i i95, .n n96, .n n97, .i i98, .b b99, .l l100, .b b101, .l l102, .i i103, .b b104, .l l105, .i i106, .b b107, .l l108, .b b109, .l l110, .i i111, .b b112, .l l113, .i i114, .b b115, .l l116]
def of29_9 : List Leaf → Option S29_9
  | [.n n93, .n n94, .i i95, .n n96, .n n97, .i i98, .b b99, .l l100, .b b101, .l l102, .i i103, .b b104, .l l105, .i i106, .b b107, .l l108, .b b109, .l l110, .i i111, .b b112, .l l113, .i i114, .b b115, .l l116] => some ⟨n93, n94, i95, n96, n97, i98, b99, l100, b101, l102, i103, b104, l105, i106, b107, l108, b109, l110, i111, b112, l113, i114, b115, l116⟩
  | _ => none
def ps29_9 : List PV := ((.sref 2) :: (up 2 ((.d (.int .i64) (.int .i64)) :: (.sref 2) :: (.d (.int .i64) (.int .i64)) :: (up 55 []))))
def qs29_9 : List PO := [(.var k1_ (.d k1_ (.agg [(.agg [.slice, .slice]), (.int .i64), .slice, (.int .i64)]))), (.var k1_ (.d k1_ (.agg [(.agg [.slice, .slice]), (.int .i64), .slice, (.int .i64)]))), (.row 3 true)]
noncomputable def t4 (M : Nat) : List Ent := ⟨29, 10, 3, 9, sumS [0, 3, 4, 5] ps29_9 qs29_9 [] of29_9 (st29_9 M) ex29_9 M⟩ :: t3 M
theorem t4_ok (M : Nat) : AllOk (e M) (tblOf (t4 M)) := AllOk.addS (n0 := 3) (lv := lv29_9) (t3_ok M) (by kernel_rfl) rfl (by intro ls s h; unfold of29_9 at h; (repeat' split at h) <;> simp at h; subst h; rfl) (by intro s; kernel_rfl) (by intro s; kernel_rfl) (by intro s nx k; kernel_rfl)
structure S29_4 where
  (n72 n73 : Nat) (i74 : Int) (b75 : Bool) (l76 : List D) (b77 : Bool) (l78 : List D) (i79 : Int) (b80 : Bool) (l81 : List D) (i82 : Int) (b83 : Bool) (l84 : List D) (b85 : Bool) (l86 : List D) (i87 : Int) (b88 : Bool) (l89 : List D) (i90 : Int) (b91 : Bool) (l92 : List D)
inductive X29_4 where
  | e0 (n93 n94 : Nat) (i95 : Int) (b99 : Bool) (l100 : List D) (b101 : Bool) (l102 : List D) (i103 : Int) (b104 : Bool) (l105 : List D) (i106 : Int) (b107 : Bool) (l108 : List D) (b109 : Bool) (l110 : List D) (i111 : Int) (b112 : Bool) (l113 : List D) (i114 : Int) (b115 : Bool) (l116 : List D)
  | e1 (n72 n73 : Nat) (b75 : Bool) (l76 : List D) (b77 : Bool) (l78 : List D) (i79 : Int) (b80 : Bool) (l81 : List D) (i82 : Int) (b83 : Bool) (l84 : List D) (b85 : Bool) (l86 : List D) (i87 : Int) (b88 : Bool) (l89 : List D) (i90 : Int) (b91 : Bool) (l92 : List D)
def st29_4 (M : Nat) : S29_4 → (S29_4 → Option D) → (X29_4 → Option D) → Option D
  | ⟨n72, n73, i74, b75, l76, b77, l78, i79, b80, l81, i82, b83, l84, b85, l86, i87, b88, l89, i90, b91, l92⟩, rec, K => (cond (ltI i74 (nI n73)) (cond (inb i74 n73) (cond (inb (sb .i64 i74 1) n73) (cond (eqI (ix l92 (n72 + i74.toNat)).i (ix l92 (n72 + (sb .i64 i74 1).toNat)).i) (cond ((leI 0 i74) && (leI i74 (nI n73)) && (leN (n72 + n73) l92.length)) (goS (st29_9 M) M ⟨n72, n73, i74, (n72 + i74.toNat), (n73 - i74.toNat), 1, b75, l76, b77, l78, i79, b80, l81, i82, b83, l84, b85, l86, i87, b88, l89, i90, b91, l92⟩ fun x => match x with | .e0 n93 n94 i95 b99 l100 b101 l102 i103 b104 l105 i106 b107 l108 b109 l110 i111 b112 l113 i114 b115 l116 => (cond ((leI 0 i95) && (leI i95 (nI n94)) && (leN (n93 + n94) l116.length)) (cond (true && (leI 0 i95) && (leN (n93 + i95.toNat) (ap (ap (l116.take (n93 + i95.toNat)) (rp (n94 - i95.toNat) (di 0))) (l116.drop ((n93 + i95.toNat) + (n94 - i95.toNat)))).length)) (K (.e0 n93 n94 i95 b99 l100 b101 l102 i103 b104 l105 i106 b107 l108 b109 l110 i111 b112 l113 i114 b115 l116)) none) none)) none) (rec ⟨n72, n73, (ad .i64 i74 1), b75, l76, b77, l78, i79, b80, l81, i82, b83, l84, b85, l86, i87, b88, l89, i90, b91, l92⟩)) none) none) (K (.e1 n72 n73 b75 l76 b77 l78 i79 b80 l81 i82 b83 l84 b85 l86 i87 b88 l89 i90 b91 l92)))
def ex29_4 (k : Kont) : X29_4 → Option D
  | .e0 n93 n94 i95 b99 l100 b101 l102 i103 b104 l105 i106 b107 l108 b109 l110 i111 b112 l113 i114 b115 l116 => k .ret ((.sref 2 n93 n94) :: (us 1 ((.sref 2 (n93 + 0) (i95.toNat - 0)) :: (us 58 [])))) [(.var k1_ (vk k1_ (da [(da [(dl b99 l100), (dl b101 l102)]), (di i103), (dl b104 l105), (di i106)]))), (.var k1_ (vk k1_ (da [(da [(dl b107 l108), (dl b109 l110)]), (di i111), (dl b112 l113), (di i114)]))), (.row 3 true b115 (ap (ap (l116.take (n93 + i95.toNat)) (rp (n94 - i95.toNat) (di 0))) (l116.drop ((n93 + i95.toNat) + (n94 - i95.toNat)))))]
  | .e1 n72 n73 b75 l76 b77 l78 i79 b80 l81 i82 b83 l84 b85 l86 i87 b88 l89 i90 b91 l92 => k (.exit 0) ((.sref 2 n72 n73) :: (us 60 [])) [(.var k1_ (vk k1_ (da [(da [(dl b75 l76), (dl b77 l78)]), (di i79), (dl b80 l81), (di i82)]))), (.var k1_ (vk k1_ (da [(da [(dl b83 l84), (dl b85 l86)]), (di i87), (dl b88 l89), (di i90)]))), (.row 3 true b91 l92)]
def lv29_4 : S29_4 → List Leaf
  | ⟨n72, n73, i74, b75, l76, b77, l78, i79, b80, l81, i82, b83, l84, b85, l86, i87, b88, l89, i90, b91, l92⟩ => [.n n72, .n n73, .i i74, .b b75, .l l76, .b b77, .l l78, .i i79, .b b80, .l l81, .i i82, .b b83, .l l84, .b b85, .l l86, .i i87, .b b88, .l l89, .i i90, .b b91, .l l92]
def of29_4 : List Leaf → Option S29_4
  | [.n n72, .n n73, .i i74, .b b75, .l l76, .b b77, .l l78, .i i79, .b b80, .l l81, .i i82, .b b83, .l l84, .b b85, .l l86, .i i87, .b b88, .l l89, .i i90, .b b91, .l l92] => some ⟨n72, n73, i74, b75, l76, b77, l78, i79, b80, l81, i82, b83, l84, b85, l86, i87, b88, l89, i90, b91, l92⟩
  | _ => none
def ps29_4 : List PV := ((.sref 2) :: (up 2 ((.d (.int .i64) (.int .i64)) :: (up 57 []))))
def qs29_4 : List PO := [(.var k1_ (.d k1_ (.agg [(.agg [.slice, .slice]), (.int .i64), .slice, (.int .i64)]))), (.var k1_ (.d k1_ (.agg [(.agg [.slice, .slice]), (.int .i64), .slice, (.int .i64)]))), (.row 3 true)]
noncomputable def t (M : Nat) : List Ent := ⟨29, 10, 3, 4, sumS [0, 3] ps29_4 qs29_4 [] of29_4 (st29_4 M) ex29_4 M⟩ :: t4 M
theorem t_ok (M : Nat) : AllOk (e M) (tblOf (t M)) := AllOk.addS (n0 := 3) (lv := lv29_4) (t4_ok M) (by kernel_rfl) rfl (by intro ls s h; unfold of29_4 at h; (repeat' split at h) <;> simp at h; subst h; rfl) (by intro s; kernel_rfl) (by intro s; kernel_rfl) (by intro s nx k; kernel_rfl)
def s (M : Nat) (p0 : D) : Option D :=
  (goS (st4 M) M ⟨p0, 0, 0, p0, (nI p0.elems.length), 0, false, [], false, [], 0, false, [], 0, false, [], false, [], 0, false, [], 0, false, []⟩ fun x => match x with | .e0 d1 n2 n3 b7 l8 b9 l10 i11 b12 l13 i14 b15 l16 b17 l18 i19 b20 l21 i22 b23 l24 => (cond (true && (mx n3)) (goS (st28_1 M) M ⟨n2, n3, 0, (sb .i64 (nI n3) 1), b7, l8, b9, l10, i11, b12, l13, i14, b15, l16, b17, l18, i19, b20, l21, i22, b23, (ap (ap (l24.take n2) (sortD ((l24.drop n2).take n3))) (l24.drop (n2 + n3)))⟩ fun x => match x with | .e0 b29 l30 b31 l32 i33 b34 l35 i36 b37 l38 b39 l40 i41 b42 l43 i44 b45 l46 => (cond (ltI (nI n3) 2) (goS (st13 M) M ⟨d1, n2, n3, (nI n3), 0, b29, l30, b31, l32, i33, b34, l35, i36, b37, l38, b39, l40, i41, b42, l43, i44, b45, l46⟩ fun x => match x with | .e0 n48 i51 i67 b68 l69 r70 => (some (D.tup [(da [(r70.at 0), (ix l69 (n48 + i51.toNat)), (r70.at 1), (di i67)]), (db true)])) | .e1 b52 l53 b54 l55 i56 b57 l58 i59 b60 l61 b62 l63 i64 b65 l66 i67 b68 l69 => (some (D.tup [(da [(da [(dl b60 l61), (dl b62 l63)]), (di i64), (dl b65 l66), (di i67)]), (db false)]))) (goS (st29_4 M) M ⟨n2, n3, 1, b29, l30, b31, l32, i33, b34, l35, i36, b37, l38, b39, l40, i41, b42, l43, i44, b45, l46⟩ fun x => match x with | .e0 n93 n94 i95 b99 l100 b101 l102 i103 b104 l105 i106 b107 l108 b109 l110 i111 b112 l113 i114 b115 l116 => (goS (st13 M) M ⟨d1, (n93 + 0), (i95.toNat - 0), (nI (i95.toNat - 0)), 0, b99, l100, b101, l102, i103, b104, l105, i106, b107, l108, b109, l110, i111, b112, l113, i114, b115, (ap (ap (l116.take (n93 + i95.toNat)) (rp (n94 - i95.toNat) (di 0))) (l116.drop ((n93 + i95.toNat) + (n94 - i95.toNat))))⟩ fun x => match x with | .e0 n48 i51 i67 b68 l69 r70 => (some (D.tup [(da [(r70.at 0), (ix l69 (n48 + i51.toNat)), (r70.at 1), (di i67)]), (db true)])) | .e1 b52 l53 b54 l55 i56 b57 l58 i59 b60 l61 b62 l63 i64 b65 l66 i67 b68 l69 => (some (D.tup [(da [(da [(dl b60 l61), (dl b62 l63)]), (di i64), (dl b65 l66), (di i67)]), (db false)]))) | .e1 n72 n73 b75 l76 b77 l78 i79 b80 l81 i82 b83 l84 b85 l86 i87 b88 l89 i90 b91 l92 => (goS (st13 M) M ⟨d1, n72, n73, (nI n73), 0, b75, l76, b77, l78, i79, b80, l81, i82, b83, l84, b85, l86, i87, b88, l89, i90, b91, l92⟩ fun x => match x with | .e0 n48 i51 i67 b68 l69 r70 => (some (D.tup [(da [(r70.at 0), (ix l69 (n48 + i51.toNat)), (r70.at 1), (di i67)]), (db true)])) | .e1 b52 l53 b54 l55 i56 b57 l58 i59 b60 l61 b62 l63 i64 b65 l66 i67 b68 l69 => (some (D.tup [(da [(da [(dl b60 l61), (dl b62 l63)]), (di i64), (dl b65 l66), (di i67)]), (db false)])))))) none))
theorem run (M : Nat) (p0 : D) : callS (e M) (tblOf (t M)) 12 (.fn 17) [.d (.slice 45) p0] [] (fun v H => finish ty [48, 4] v H) = s M p0 := by kernel_rfl
def c : Con := { run := fun ds => match ds with | [p0] => s FUEL p0 | _ => none }
theorem ok : ConOk (17, c) := mkC Try.f17 [(.slice 45)] [48, 4] (by kernel_rfl) (by kernel_rfl) (by kernel_rfl) (by kernel_rfl) (allCons F13.ok (allCons F22.ok allNil)) (allCons sort_ok allNil) (t_ok FUEL) fun a => run FUEL a.1
end F17
namespace F38
def cons : List (Nat × Con) := []
def exts : List (Nat × Ext) := []
def h : List (Nat × Nat × Hint) := []
noncomputable def e (M : Nat) : Env := env cons exts h M
def s (M : Nat) (p0 : Int) : Option D :=
  (cond (ltI p0 0) (some (db true)) (some (db (geI p0 64))))
theorem run (M : Nat) (p0 : Int) : callS (e M) (tblOf []) 12 (.fn 38) [.d (.int .i64) (di p0)] [] (fun v H => finish ty [4] v H) = s M p0 := by kernel_rfl
def c : Con := { run := fun ds => match ds with | [p0] => s FUEL p0.i | _ => none, plain := true }
theorem ok : ConOk (38, c) := mkC Try.f38 [(.int .i64)] [4] (by kernel_rfl) (by kernel_rfl) (by kernel_rfl) (by kernel_rfl) allNil allNil AllOk.nil fun a => run FUEL a.1
end F38
namespace F15
def cons : List (Nat × Con) := [(38, F38.c)]
def exts : List (Nat × Ext) := [(27, sortX 3)]
def h : List (Nat × Nat × Hint) := [(15, 3, { live := [1, 5, 8, 9, 10], rows := [(5, 3)], out := some [5] }), (29, 4, { live := [0, 3], out := some [0, 2] }), (29, 9, { live := [0, 3, 4, 5], out := some [0, 3] }), (37, 5, { live := [0, 1, 5, 6], out := some [0, 5] }), (55, 2, { live := [0, 1, 7, 8], out := some [4] })]
noncomputable def e (M : Nat) : Env := env cons exts h M
structure S3 where
  (i1 : Int) (n2 n3 : Nat) (d4 : D) (i5 i6 : Int) (b7 : Bool) (l8 : List D)
inductive X3 where
  | e0 (n2 n3 : Nat) (b7 : Bool) (l8 : List D)
def st3 (M : Nat) : S3 → (S3 → Option D) → (X3 → Option D) → Option D
  | ⟨i1, n2, n3, d4, i5, i6, b7, l8⟩, rec, K => (cond (ltI i6 i5) (cond (inb i6 d4.elems.length) (cond (eqI (((ix d4.elems i6.toNat).at 2).at 0).i 0) (cond (eqI (((ix d4.elems i6.toNat).at 2).at 2).i i1) (cond (mx (n3 + 1)) (rec ⟨i1, 0, (n3 + 1), d4, i5, (ad .i64 i6 1), (b7 || true), (ap ((l8.drop n2).take n3) [((ix d4.elems i6.toNat).at 0)])⟩) none) (rec ⟨i1, n2, n3, d4, i5, (ad .i64 i6 1), b7, l8⟩)) (rec ⟨i1, n2, n3, d4, i5, (ad .i64 i6 1), b7, l8⟩)) none) (K (.e0 n2 n3 b7 l8)))
def ex3 (k : Kont) : X3 → Option D
  | .e0 n2 n3 b7 l8 => k (.exit 0) ((us 5 ((.sref 0 n2 n3) :: (us 27 [])))) [(.row 3 true b7 l8)]
def lv3 : S3 → List Leaf
  | ⟨i1, n2, n3, d4, i5, i6, b7, l8⟩ => [.i i1, .n n2, .n n3, .d d4, .i i5, .i i6, .b b7, .l l8]
def of3 : List Leaf → Option S3
  | [.i i1, .n n2, .n n3, .d d4, .i i5, .i i6, .b b7, .l l8] => some ⟨i1, n2, n3, d4, i5, i6, b7, l8⟩
  | _ => none
def ps3 : List PV := ((up 1 ((.d (.int .i64) (.int .i64)) :: (up 3 ((.sref 0) :: (up 2 ((.d (.slice 45) .x) :: (.d (.int .i64) (.int .i64)) :: (.d (.int .i64) (.int .i64)) :: (up 22 []))))))))
def qs3 : List PO := [(.row 3 true)]
noncomputable def t1 (M : Nat) : List Ent := ⟨15, 11, 0, 3, sumS [1, 5, 8, 9, 10] ps3 qs3 [(5, 0)] of3 (st3 M) ex3 M⟩ :: []
theorem t1_ok (M : Nat) : AllOk (e M) (tblOf (t1 M)) := AllOk.addS (n0 := 1) (lv := lv3) AllOk.nil (by kernel_rfl) rfl (by intro ls s h; unfold of3 at h; (repeat' split at h) <;> simp at h; subst h; rfl) (by intro s; kernel_rfl) (by intro s; kernel_rfl) (by intro s nx k; kernel_rfl)
structure S55_2 where
  (n9 n10 : Nat) (i11 i12 : Int) (b13 : Bool) (l14 : List D)
inductive X55_2 where
  | e0 (i12 : Int) (b13 : Bool) (l14 : List D)
  | e1 (b13 : Bool) (l14 : List D)
def st55_2 (M : Nat) : S55_2 → (S55_2 → Option D) → (X55_2 → Option D) → Option D
  | ⟨n9, n10, i11, i12, b13, l14⟩, rec, K => (cond (ltI i12 i11) (cond (inb i12 n10) (bd (F38.s FUEL (ix l14 (n9 + i12.toNat)).i) fun r15 => (cond r15.b (K (.e0 i12 b13 l14)) (rec ⟨n9, n10, i11, (ad .i64 i12 1), b13, l14⟩))) none) (K (.e1 b13 l14)))
def ex55_2 (k : Kont) : X55_2 → Option D
  | .e0 i12 b13 l14 => k .ret ((us 4 ((vi i12) :: (us 14 [])))) [(.row 3 true b13 l14)]
  | .e1 b13 l14 => k (.exit 0) ((us 19 [])) [(.row 3 true b13 l14)]
def lv55_2 : S55_2 → List Leaf
  | ⟨n9, n10, i11, i12, b13, l14⟩ => [.n n9, .n n10, .i i11, .i i12, .b b13, .l l14]
def of55_2 : List Leaf → Option S55_2
  | [.n n9, .n n10, .i i11, .i i12, .b b13, .l l14] => some ⟨n9, n10, i11, i12, b13, l14⟩
  | _ => none
def ps55_2 : List PV := ((.sref 0) :: (.d .func (.fn 38)) :: (up 5 ((.d (.int .i64) (.int .i64)) :: (.d (.int .i64) (.int .i64)) :: (up 10 []))))
def qs55_2 : List PO := [(.row 3 true)]
noncomputable def t2 (M : Nat) : List Ent := ⟨55, 8, 1, 2, sumS [0, 1, 7, 8] ps55_2 qs55_2 [] of55_2 (st55_2 M) ex55_2 M⟩ :: t1 M
theorem t2_ok (M : Nat) : AllOk (e M) (tblOf (t2 M)) := AllOk.addS (n0 := 1) (lv := lv55_2) (t1_ok M) (by kernel_rfl) rfl (by intro ls s h; unfold of55_2 at h; (repeat' split at h) <;> simp at h; subst h; rfl) (by intro s; kernel_rfl) (by intro s; kernel_rfl) (by intro s nx k; kernel_rfl)
structure S29_9 where
  (n21 n22 : Nat) (i23 : Int) (n24 n25 : Nat) (i26 : Int) (b27 : Bool) (l28 : List D)
inductive X29_9 where
  | e0 (n21 n22 : Nat) (i23 : Int) (b27 : Bool) (l28 : List D)
def st29_9 (M : Nat) : S29_9 → (S29_9 → Option D) → (X29_9 → Option D) → Option D
  | ⟨n21, n22, i23, n24, n25, i26, b27, l28⟩, rec, K => (cond (ltI i26 (nI n25)) (cond (inb i26 n25) (cond (inb (sb .i64 i26 1) n25) (cond (neI (ix l28 (n24 + i26.toNat)).i (ix l28 (n24 + (sb .i64 i26 1).toNat)).i) (cond (inb i26 n25) (cond (inb i23 n22) (rec ⟨n21, n22, (ad .i64 i23 1), n24, n25, (ad .i64 i26 1), b27, (l28.set (n21 + i23.toNat) (ix l28 (n24 + i26.toNat)))⟩) none) none) (rec ⟨n21, n22, i23, n24, n25, (ad .i64 i26 1), b27, l28⟩)) none) none) (K (.e0 n21 n22 i23 b27 l28)))
def ex29_9 (k : Kont) : X29_9 → Option D
  | .e0 n21 n22 i23 b27 l28 => k (.exit 2) ((.sref 0 n21 n22) :: (us 2 ((vi i23) :: (us 57 [])))) [(.row 3 true b27 l28)]
def lv29_9 : S29_9 → List Leaf
  | ⟨n21, n22, i23, n24, n25, i26, b27, l28⟩ => [.n n21, .n n22, .i i23, .n n24, .n n25, .i i26, .b b27, .l l28]
def of29_9 : List Leaf → Option S29_9
  | [.n n21, .n n22, .i i23, .n n24, .n n25, .i i26, .b b27, .l l28] => some ⟨n21, n22, i23, n24, n25, i26, b27, l28⟩
  | _ => none
def ps29_9 : List PV := ((.sref 0) :: (up 2 ((.d (.int .i64) (.int .i64)) :: (.sref 0) :: (.d (.int .i64) (.int .i64)) :: (up 55 []))))
def qs29_9 : List PO := [(.row 3 true)]
noncomputable def t3 (M : Nat) : List Ent := ⟨29, 9, 1, 9, sumS [0, 3, 4, 5] ps29_9 qs29_9 [] of29_9 (st29_9 M) ex29_9 M⟩ :: t2 M
theorem t3_ok (M : Nat) : AllOk (e M) (tblOf (t3 M)) := AllOk.addS (n0 := 1) (lv := lv29_9) (t2_ok M) (by kernel_rfl) rfl (by intro ls s h; unfold of29_9 at h; (repeat' split at h) <;> simp at h; subst h; rfl) (by intro s; kernel_rfl) (by intro s; kernel_rfl) (by intro s nx k; kernel_rfl)
structure S29_4 where
  (n16 n17 : Nat) (i18 : Int) (b19 : Bool) (l20 : List D)
inductive X29_4 where
  | e0 (n21 n22 : Nat) (i23 : Int) (b27 : Bool) (l28 : List D)
  | e1 (n16 n17 : Nat) (b19 : Bool) (l20 : List D)
def st29_4 (M : Nat) : S29_4 → (S29_4 → Option D) → (X29_4 → Option D) → Option D
  | ⟨n16, n17, i18, b19, l20⟩, rec, K => (cond (ltI i18 (nI n17)) (cond (inb i18 n17) (cond (inb (sb .i64 i18 1) n17) (cond (eqI (ix l20 (n16 + i18.toNat)).i (ix l20 (n16 + (sb .i64 i18 1).toNat)).i) (cond ((leI 0 i18) && (leI i18 (nI n17)) && (leN (n16 + n17) l20.length)) (goS (st29_9 M) M ⟨n16, n17, i18, (n16 + i18.toNat), (n17 - i18.toNat), 1, b19, l20⟩ fun x => match x with | .e0 n21 n22 i23 b27 l28 => (cond ((leI 0 i23) && (leI i23 (nI n22)) && (leN (n21 + n22) l28.length)) (cond (true && (leI 0 i23) && (leN (n21 + i23.toNat) (ap (ap (l28.take (n21 + i23.toNat)) (rp (n22 - i23.toNat) (di 0))) (l28.drop ((n21 + i23.toNat) + (n22 - i23.toNat)))).length)) (K (.e0 n21 n22 i23 b27 l28)) none) none)) none) (rec ⟨n16, n17, (ad .i64 i18 1), b19, l20⟩)) none) none) (K (.e1 n16 n17 b19 l20)))
def ex29_4 (k : Kont) : X29_4 → Option D
  | .e0 n21 n22 i23 b27 l28 => k .ret ((.sref 0 n21 n22) :: (us 1 ((.sref 0 (n21 + 0) (i23.toNat - 0)) :: (us 58 [])))) [(.row 3 true b27 (ap (ap (l28.take (n21 + i23.toNat)) (rp (n22 - i23.toNat) (di 0))) (l28.drop ((n21 + i23.toNat) + (n22 - i23.toNat)))))]
  | .e1 n16 n17 b19 l20 => k (.exit 0) ((.sref 0 n16 n17) :: (us 60 [])) [(.row 3 true b19 l20)]
def lv29_4 : S29_4 → List Leaf
  | ⟨n16, n17, i18, b19, l20⟩ => [.n n16, .n n17, .i i18, .b b19, .l l20]
def of29_4 : List Leaf → Option S29_4
  | [.n n16, .n n17, .i i18, .b b19, .l l20] => some ⟨n16, n17, i18, b19, l20⟩
  | _ => none
def ps29_4 : List PV := ((.sref 0) :: (up 2 ((.d (.int .i64) (.int .i64)) :: (up 57 []))))
def qs29_4 : List PO := [(.row 3 true)]
noncomputable def t4 (M : Nat) : List Ent := ⟨29, 9, 1, 4, sumS [0, 3] ps29_4 qs29_4 [] of29_4 (st29_4 M) ex29_4 M⟩ :: t3 M
theorem t4_ok (M : Nat) : AllOk (e M) (tblOf (t4 M)) := AllOk.addS (n0 := 1) (lv := lv29_4) (t3_ok M) (by kernel_rfl) rfl (by intro ls s h; unfold of29_4 at h; (repeat' split at h) <;> simp at h; subst h; rfl) (by intro s; kernel_rfl) (by intro s; kernel_rfl) (by intro s nx k; kernel_rfl)
structure S37_5 where
  (n29 n30 : Nat) (i31 i32 : Int) (b33 : Bool) (l34 : List D)
inductive X37_5 where
  | e0 (n29 n30 : Nat) (i31 : Int) (b33 : Bool) (l34 : List D)
def st37_5 (M : Nat) : S37_5 → (S37_5 → Option D) → (X37_5 → Option D) → Option D
  | ⟨n29, n30, i31, i32, b33, l34⟩, rec, K => (cond (ltI i32 (nI n30)) (cond (inb i32 n30) (bd (F38.s FUEL (ix l34 (n29 + i32.toNat)).i) fun r35 => (cond (!r35.b) (cond (inb i31 n30) (rec ⟨n29, n30, (ad .i64 i31 1), (ad .i64 i32 1), b33, (l34.set (n29 + i31.toNat) (ix l34 (n29 + i32.toNat)))⟩) none) (rec ⟨n29, n30, i31, (ad .i64 i32 1), b33, l34⟩))) none) (K (.e0 n29 n30 i31 b33 l34)))
def ex37_5 (k : Kont) : X37_5 → Option D
  | .e0 n29 n30 i31 b33 l34 => k (.exit 0) ((.sref 0 n29 n30) :: (us 4 ((vi i31) :: (us 36 [])))) [(.row 3 true b33 l34)]
def lv37_5 : S37_5 → List Leaf
  | ⟨n29, n30, i31, i32, b33, l34⟩ => [.n n29, .n n30, .i i31, .i i32, .b b33, .l l34]
def of37_5 : List Leaf → Option S37_5
  | [.n n29, .n n30, .i i31, .i i32, .b b33, .l l34] => some ⟨n29, n30, i31, i32, b33, l34⟩
  | _ => none
def ps37_5 : List PV := ((.sref 0) :: (.d .func (.fn 38)) :: (up 3 ((.d (.int .i64) (.int .i64)) :: (.d (.int .i64) (.int .i64)) :: (up 35 []))))
def qs37_5 : List PO := [(.row 3 true)]
noncomputable def t (M : Nat) : List Ent := ⟨37, 9, 1, 5, sumS [0, 1, 5, 6] ps37_5 qs37_5 [] of37_5 (st37_5 M) ex37_5 M⟩ :: t4 M
theorem t_ok (M : Nat) : AllOk (e M) (tblOf (t M)) := AllOk.addS (n0 := 1) (lv := lv37_5) (t4_ok M) (by kernel_rfl) rfl (by intro ls s h; unfold of37_5 at h; (repeat' split at h) <;> simp at h; subst h; rfl) (by intro s; kernel_rfl) (by intro s; kernel_rfl) (by intro s nx k; kernel_rfl)
def s (M : Nat) (p0 : D) (p1 : Int) : Option D :=
  (goS (st3 M) M ⟨p1, 0, 0, p0, (nI p0.elems.length), 0, false, []⟩ fun x => match x with | .e0 n2 n3 b7 l8 => (goS (st55_2 M) M ⟨n2, n3, (nI n3), 0, b7, l8⟩ fun x => match x with | .e0 i12 b13 l14 => (cond (eqI i12 (-1)) (cond (true && (mx n3)) (cond (ltI (nI n3) 2) (some (dl b13 (((ap (ap (l14.take n2) (sortD ((l14.drop n2).take n3))) (l14.drop (n2 + n3))).drop n2).take n3))) (goS (st29_4 M) M ⟨n2, n3, 1, b13, (ap (ap (l14.take n2) (sortD ((l14.drop n2).take n3))) (l14.drop (n2 + n3)))⟩ fun x => match x with | .e0 n21 n22 i23 b27 l28 => (some (dl b27 (((ap (ap (l28.take (n21 + i23.toNat)) (rp (n22 - i23.toNat) (di 0))) (l28.drop ((n21 + i23.toNat) + (n22 - i23.toNat)))).drop (n21 + 0)).take (i23.toNat - 0)))) | .e1 n16 n17 b19 l20 => (some (dl b19 ((l20.drop n16).take n17))))) none) (goS (st37_5 M) M ⟨n2, n3, i12, (ad .i64 i12 1), b13, l14⟩ fun x => match x with | .e0 n29 n30 i31 b33 l34 => (cond ((leI 0 i31) && (leI i31 (nI n30)) && (leN (n29 + n30) l34.length)) (cond (true && (leI 0 i31) && (leN (n29 + i31.toNat) (ap (ap (l34.take (n29 + i31.toNat)) (rp (n30 - i31.toNat) (di 0))) (l34.drop ((n29 + i31.toNat) + (n30 - i31.toNat)))).length)) (cond (true && (mx (i31.toNat - 0))) (cond (ltI (nI (i31.toNat - 0)) 2) (some (dl b33 (((ap (ap ((ap (ap (l34.take (n29 + i31.toNat)) (rp (n30 - i31.toNat) (di 0))) (l34.drop ((n29 + i31.toNat) + (n30 - i31.toNat)))).take (n29 + 0)) (sortD (((ap (ap (l34.take (n29 + i31.toNat)) (rp (n30 - i31.toNat) (di 0))) (l34.drop ((n29 + i31.toNat) + (n30 - i31.toNat)))).drop (n29 + 0)).take (i31.toNat - 0)))) ((ap (ap (l34.take (n29 + i31.toNat)) (rp (n30 - i31.toNat) (di 0))) (l34.drop ((n29 + i31.toNat) + (n30 - i31.toNat)))).drop ((n29 + 0) + (i31.toNat - 0)))).drop (n29 + 0)).take (i31.toNat - 0)))) (goS (st29_4 M) M ⟨(n29 + 0), (i31.toNat - 0), 1, b33, (ap (ap ((ap (ap (l34.take (n29 + i31.toNat)) (rp (n30 - i31.toNat) (di 0))) (l34.drop ((n29 + i31.toNat) + (n30 - i31.toNat)))).take (n29 + 0)) (sortD (((ap (ap (l34.take (n29 + i31.toNat)) (rp (n30 - i31.toNat) (di 0))) (l34.drop ((n29 + i31.toNat) + (n30 - i31.toNat)))).drop (n29 + 0)).take (i31.toNat - 0)))) ((ap (ap (l34.take (n29 + i31.toNat)) (rp (n30 - i31.toNat) (di 0))) (l34.drop ((n29 + i31.toNat) + (n30 - i31.toNat)))).drop ((n29 + 0) + (i31.toNat - 0))))⟩ fun x => match x with | .e0 n21 n22 i23 b27 l28 => (some (dl b27 (((ap (ap (l28.take (n21 + i23.toNat)) (rp (n22 - i23.toNat) (di 0))) (l28.drop ((n21 + i23.toNat) + (n22 - i23.toNat)))).drop (n21 + 0)).take (i23.toNat - 0)))) | .e1 n16 n17 b19 l20 => (some (dl b19 ((l20.drop n16).take n17))))) none) none) none))) | .e1 b13 l14 => (cond (true && (mx n3)) (cond (ltI (nI n3) 2) (some (dl b13 (((ap (ap (l14.take n2) (sortD ((l14.drop n2).take n3))) (l14.drop (n2 + n3))).drop n2).take n3))) (goS (st29_4 M) M ⟨n2, n3, 1, b13, (ap (ap (l14.take n2) (sortD ((l14.drop n2).take n3))) (l14.drop (n2 + n3)))⟩ fun x => match x with | .e0 n21 n22 i23 b27 l28 => (some (dl b27 (((ap (ap (l28.take (n21 + i23.toNat)) (rp (n22 - i23.toNat) (di 0))) (l28.drop ((n21 + i23.toNat) + (n22 - i23.toNat)))).drop (n21 + 0)).take (i23.toNat - 0)))) | .e1 n16 n17 b19 l20 => (some (dl b19 ((l20.drop n16).take n17))))) none)))
theorem run (M : Nat) (p0 : D) (p1 : Int) : callS (e M) (tblOf (t M)) 12 (.fn 15) [.d (.slice 45) p0, .d (.int .i64) (di p1)] [] (fun v H => finish ty [24] v H) = s M p0 p1 := by kernel_rfl
def c : Con := { run := fun ds => match ds with | [p0, p1] => s FUEL p0 p1.i | _ => none }
theorem ok : ConOk (15, c) := mkC Try.f15 [(.slice 45), (.int .i64)] [24] (by kernel_rfl) (by kernel_rfl) (by kernel_rfl) (by kernel_rfl) (allCons F38.ok allNil) (allCons sort_ok allNil) (t_ok FUEL) fun a => run FUEL a.1 a.2.1
end F15
namespace F18
def k0_ : K := (.struct [26, 3, 22, 3])
def cons : List (Nat × Con) := [(38, F38.c)]
def exts : List (Nat × Ext) := [(27, sortX 3)]
def h : List (Nat × Nat × Hint) := [(18, 3, { live := [1, 3, 10, 11, 12], rows := [(3, 3)], out := some [1, 3] }), (18, 8, { live := [3, 23, 24, 25], rows := [(3, 3)], out := some [3] }), (29, 4, { live := [0, 3], out := some [0, 2] }), (29, 9, { live := [0, 3, 4, 5], out := some [0, 3] }), (37, 5, { live := [0, 1, 5, 6], out := some [0, 5] }), (55, 2, { live := [0, 1, 7, 8], out := some [4] })]
def q0_ : PO := (.var k0_ (.d k0_ .x))
noncomputable def e (M : Nat) : Env := env cons exts h M
structure S3 where
  (n1 n2 : Nat) (d3 : D) (i4 i5 : Int) (d6 : D) (b7 : Bool) (l8 : List D)
inductive X3 where
  | e0 (n1 n2 : Nat) (d6 : D) (b7 : Bool) (l8 : List D)
def st3 (M : Nat) : S3 → (S3 → Option D) → (X3 → Option D) → Option D
  | ⟨n1, n2, d3, i4, i5, d6, b7, l8⟩, rec, K => (cond (ltI i5 i4) (cond (inb i5 d3.elems.length) (cond (mx (n2 + 1)) (rec ⟨0, (n2 + 1), d3, i4, (ad .i64 i5 1), d6, (b7 || true), (ap ((l8.drop n1).take n2) [((ix d3.elems i5.toNat).at 2)])⟩) none) none) (K (.e0 n1 n2 d6 b7 l8)))
def ex3 (k : Kont) : X3 → Option D
  | .e0 n1 n2 d6 b7 l8 => k (.exit 0) ((us 1 ((.ptr 0 [] k0_) :: (us 1 ((.sref 1 n1 n2) :: (us 33 [])))))) [(.var k0_ (vk k0_ d6)), (.row 3 true b7 l8)]
def lv3 : S3 → List Leaf
  | ⟨n1, n2, d3, i4, i5, d6, b7, l8⟩ => [.n n1, .n n2, .d d3, .i i4, .i i5, .d d6, .b b7, .l l8]
def of3 : List Leaf → Option S3
  | [.n n1, .n n2, .d d3, .i i4, .i i5, .d d6, .b b7, .l l8] => some ⟨n1, n2, d3, i4, i5, d6, b7, l8⟩
  | _ => none
def ps3 : List PV := ((up 1 ((.ptr 0 [] k0_) :: (up 1 ((.sref 1) :: (up 6 ((.d (.slice 58) .x) :: (.d (.int .i64) (.int .i64)) :: (.d (.int .i64) (.int .i64)) :: (up 24 []))))))))
def qs3 : List PO := [q0_, (.row 3 true)]
noncomputable def t1 (M : Nat) : List Ent := ⟨18, 11, 0, 3, sumS [1, 3, 10, 11, 12] ps3 qs3 [(3, 1)] of3 (st3 M) ex3 M⟩ :: []
theorem t1_ok (M : Nat) : AllOk (e M) (tblOf (t1 M)) := AllOk.addS (n0 := 2) (lv := lv3) AllOk.nil (by kernel_rfl) rfl (by intro ls s h; unfold of3 at h; (repeat' split at h) <;> simp at h; subst h; rfl) (by intro s; kernel_rfl) (by intro s; kernel_rfl) (by intro s nx k; kernel_rfl)
structure S8 where
  (n9 n10 : Nat) (d11 : D) (i12 i13 : Int) (d14 : D) (b15 : Bool) (l16 : List D)
inductive X8 where
  | e0 (n9 n10 : Nat) (d14 : D) (b15 : Bool) (l16 : List D)
def st8 (M : Nat) : S8 → (S8 → Option D) → (X8 → Option D) → Option D
  | ⟨n9, n10, d11, i12, i13, d14, b15, l16⟩, rec, K => (cond (ltI i13 i12) (cond (inb i13 d11.elems.length) (cond (mx (n10 + 1)) (rec ⟨0, (n10 + 1), d11, i12, (ad .i64 i13 1), d14, (b15 || true), (ap ((l16.drop n9).take n10) [((ix d11.elems i13.toNat).at 0)])⟩) none) none) (K (.e0 n9 n10 d14 b15 l16)))
def ex8 (k : Kont) : X8 → Option D
  | .e0 n9 n10 d14 b15 l16 => k (.exit 2) ((us 3 ((.sref 1 n9 n10) :: (us 33 [])))) [(.var k0_ (vk k0_ d14)), (.row 3 true b15 l16)]
def lv8 : S8 → List Leaf
  | ⟨n9, n10, d11, i12, i13, d14, b15, l16⟩ => [.n n9, .n n10, .d d11, .i i12, .i i13, .d d14, .b b15, .l l16]
def of8 : List Leaf → Option S8
  | [.n n9, .n n10, .d d11, .i i12, .i i13, .d d14, .b b15, .l l16] => some ⟨n9, n10, d11, i12, i13, d14, b15, l16⟩
  | _ => none
def ps8 : List PV := ((up 3 ((.sref 1) :: (up 19 ((.d (.slice 45) .x) :: (.d (.int .i64) (.int .i64)) :: (.d (.int .i64) (.int .i64)) :: (up 11 []))))))
def qs8 : List PO := [q0_, (.row 3 true)]
noncomputable def t2 (M : Nat) : List Ent := ⟨18, 11, 0, 8, sumS [3, 23, 24, 25] ps8 qs8 [(3, 1)] of8 (st8 M) ex8 M⟩ :: t1 M
theorem t2_ok (M : Nat) : AllOk (e M) (tblOf (t2 M)) := AllOk.addS (n0 := 2) (lv := lv8) (t1_ok M) (by kernel_rfl) rfl (by intro ls s h; unfold of8 at h; (repeat' split at h) <;> simp at h; subst h; rfl) (by intro s; kernel_rfl) (by intro s; kernel_rfl) (by intro s nx k; kernel_rfl)
structure S55_2 where
  (n17 n18 : Nat) (i19 i20 : Int) (d21 : D) (b22 : Bool) (l23 : List D)
inductive X55_2 where
  | e0 (i20 : Int) (d21 : D) (b22 : Bool) (l23 : List D)
  | e1 (d21 : D) (b22 : Bool) (l23 : List D)
def st55_2 (M : Nat) : S55_2 → (S55_2 → Option D) → (X55_2 → Option D) → Option D
  | ⟨n17, n18, i19, i20, d21, b22, l23⟩, rec, K => (cond (ltI i20 i19) (cond (inb i20 n18) (bd (F38.s FUEL (ix l23 (n17 + i20.toNat)).i) fun r24 => (cond r24.b (K (.e0 i20 d21 b22 l23)) (rec ⟨n17, n18, i19, (ad .i64 i20 1), d21, b22, l23⟩))) none) (K (.e1 d21 b22 l23)))
def ex55_2 (k : Kont) : X55_2 → Option D
  | .e0 i20 d21 b22 l23 => k .ret ((us 4 ((vi i20) :: (us 14 [])))) [(.var k0_ (vk k0_ d21)), (.row 3 true b22 l23)]
  | .e1 d21 b22 l23 => k (.exit 0) ((us 19 [])) [(.var k0_ (vk k0_ d21)), (.row 3 true b22 l23)]
def lv55_2 : S55_2 → List Leaf
  | ⟨n17, n18, i19, i20, d21, b22, l23⟩ => [.n n17, .n n18, .i i19, .i i20, .d d21, .b b22, .l l23]
def of55_2 : List Leaf → Option S55_2
  | [.n n17, .n n18, .i i19, .i i20, .d d21, .b b22, .l l23] => some ⟨n17, n18, i19, i20, d21, b22, l23⟩
  | _ => none
def ps55_2 : List PV := ((.sref 1) :: (.d .func (.fn 38)) :: (up 5 ((.d (.int .i64) (.int .i64)) :: (.d (.int .i64) (.int .i64)) :: (up 10 []))))
def qs55_2 : List PO := [q0_, (.row 3 true)]
noncomputable def t3 (M : Nat) : List Ent := ⟨55, 8, 2, 2, sumS [0, 1, 7, 8] ps55_2 qs55_2 [] of55_2 (st55_2 M) ex55_2 M⟩ :: t2 M
theorem t3_ok (M : Nat) : AllOk (e M) (tblOf (t3 M)) := AllOk.addS (n0 := 2) (lv := lv55_2) (t2_ok M) (by kernel_rfl) rfl (by intro ls s h; unfold of55_2 at h; (repeat' split at h) <;> simp at h; subst h; rfl) (by intro s; kernel_rfl) (by intro s; kernel_rfl) (by intro s nx k; kernel_rfl)
structure S29_9 where
  (n31 n32 : Nat) (i33 : Int) (n34 n35 : Nat) (i36 : Int) (d37 : D) (b38 : Bool) (l39 : List D)
inductive X29_9 where
  | e0 (n31 n32 : Nat) (i33 : Int) (d37 : D) (b38 : Bool) (l39 : List D)
def st29_9 (M : Nat) : S29_9 → (S29_9 → Option D) → (X29_9 → Option D) → Option D
  | ⟨n31, n32, i33, n34, n35, i36, d37, b38, l39⟩, rec, K => (cond (ltI i36 (nI n35)) (cond (inb i36 n35) (cond (inb (sb .i64 i36 1) n35) (cond (neI (ix l39 (n34 + i36.toNat)).i (ix l39 (n34 + (sb .i64 i36 1).toNat)).i) (cond (inb i36 n35) (cond (inb i33 n32) (rec ⟨n31, n32, (ad .i64 i33 1), n34, n35, (ad .i64 i36 1), d37, b38, (l39.set (n31 + i33.toNat) (ix l39 (n34 + i36.toNat)))⟩) none) none) (rec ⟨n31, n32, i33, n34, n35, (ad .i64 i36 1), d37, b38, l39⟩)) none) none) (K (.e0 n31 n32 i33 d37 b38 l39)))
def ex29_9 (k : Kont) : X29_9 → Option D
  | .e0 n31 n32 i33 d37 b38 l39 => k (.exit 2) ((.sref 1 n31 n32) :: (us 2 ((vi i33) :: (us 57 [])))) [(.var k0_ (vk k0_ d37)), (.row 3 true b38 l39)]
def lv29_9 : S29_9 → List Leaf
  | ⟨n31, n32, i33, n34, n35, i36, d37, b38, l39⟩ => [.n n31, .n n32, .i i33, .n n34, .n n35, .i i36, .d d37, .b b38, .l l39]
def of29_9 : List Leaf → Option S29_9
  | [.n n31, .n n32, .i i33, .n n34, .n n35, .i i36, .d d37, .b b38, .l l39] => some ⟨n31, n32, i33, n34, n35, i36, d37, b38, l39⟩
  | _ => none
def ps29_9 : List PV := ((.sref 1) :: (up 2 ((.d (.int .i64) (.int .i64)) :: (.sref 1) :: (.d (.int .i64) (.int .i64)) :: (up 55 []))))
def qs29_9 : List PO := [q0_, (.row 3 true)]
noncomputable def t4 (M : Nat) : List Ent := ⟨29, 9, 2, 9, sumS [0, 3, 4, 5] ps29_9 qs29_9 [] of29_9 (st29_9 M) ex29_9 M⟩ :: t3 M
theorem t4_ok (M : Nat) : AllOk (e M) (tblOf (t4 M)) := AllOk.addS (n0 := 2) (lv := lv29_9) (t3_ok M) (by kernel_rfl) rfl (by intro ls s h; unfold of29_9 at h; (repeat' split at h) <;> simp at h; subst h; rfl) (by intro s; kernel_rfl) (by intro s; kernel_rfl) (by intro s nx k; kernel_rfl)
structure S29_4 where
  (n25 n26 : Nat) (i27 : Int) (d28 : D) (b29 : Bool) (l30 : List D)
inductive X29_4 where
  | e0 (n31 n32 : Nat) (i33 : Int) (d37 : D) (b38 : Bool) (l39 : List D)
  | e1 (n25 n26 : Nat) (d28 : D) (b29 : Bool) (l30 : List D)
def st29_4 (M : Nat) : S29_4 → (S29_4 → Option D) → (X29_4 → Option D) → Option D
  | ⟨n25, n26, i27, d28, b29, l30⟩, rec, K => (cond (ltI i27 (nI n26)) (cond (inb i27 n26) (cond (inb (sb .i64 i27 1) n26) (cond (eqI (ix l30 (n25 + i27.toNat)).i (ix l30 (n25 + (sb .i64 i27 1).toNat)).i) (cond ((leI 0 i27) && (leI i27 (nI n26)) && (leN (n25 + n26) l30.length)) (goS (st29_9 M) M ⟨n25, n26, i27, (n25 + i27.toNat), (n26 - i27.toNat), 1, d28, b29, l30⟩ fun x => match x with | .e0 n31 n32 i33 d37 b38 l39 => (cond ((leI 0 i33) && (leI i33 (nI n32)) && (leN (n31 + n32) l39.length)) (cond (true && (leI 0 i33) && (leN (n31 + i33.toNat) (ap (ap (l39.take (n31 + i33.toNat)) (rp (n32 - i33.toNat) (di 0))) (l39.drop ((n31 + i33.toNat) + (n32 - i33.toNat)))).length)) (K (.e0 n31 n32 i33 d37 b38 l39)) none) none)) none) (rec ⟨n25, n26, (ad .i64 i27 1), d28, b29, l30⟩)) none) none) (K (.e1 n25 n26 d28 b29 l30)))
def ex29_4 (k : Kont) : X29_4 → Option D
  | .e0 n31 n32 i33 d37 b38 l39 => k .ret ((.sref 1 n31 n32) :: (us 1 ((.sref 1 (n31 + 0) (i33.toNat - 0)) :: (us 58 [])))) [(.var k0_ (vk k0_ d37)), (.row 3 true b38 (ap (ap (l39.take (n31 + i33.toNat)) (rp (n32 - i33.toNat) (di 0))) (l39.drop ((n31 + i33.toNat) + (n32 - i33.toNat)))))]
  | .e1 n25 n26 d28 b29 l30 => k (.exit 0) ((.sref 1 n25 n26) :: (us 60 [])) [(.var k0_ (vk k0_ d28)), (.row 3 true b29 l30)]
def lv29_4 : S29_4 → List Leaf
  | ⟨n25, n26, i27, d28, b29, l30⟩ => [.n n25, .n n26, .i i27, .d d28, .b b29, .l l30]
def of29_4 : List Leaf → Option S29_4
  | [.n n25, .n n26, .i i27, .d d28, .b b29, .l l30] => some ⟨n25, n26, i27, d28, b29, l30⟩
  | _ => none
def ps29_4 : List PV := ((.sref 1) :: (up 2 ((.d (.int .i64) (.int .i64)) :: (up 57 []))))
def qs29_4 : List PO := [q0_, (.row 3 true)]
noncomputable def t5 (M : Nat) : List Ent := ⟨29, 9, 2, 4, sumS [0, 3] ps29_4 qs29_4 [] of29_4 (st29_4 M) ex29_4 M⟩ :: t4 M
theorem t5_ok (M : Nat) : AllOk (e M) (tblOf (t5 M)) := AllOk.addS (n0 := 2) (lv := lv29_4) (t4_ok M) (by kernel_rfl) rfl (by intro ls s h; unfold of29_4 at h; (repeat' split at h) <;> simp at h; subst h; rfl) (by intro s; kernel_rfl) (by intro s; kernel_rfl) (by intro s nx k; kernel_rfl)
structure S37_5 where
  (n40 n41 : Nat) (i42 i43 : Int) (d44 : D) (b45 : Bool) (l46 : List D)
inductive X37_5 where
  | e0 (n40 n41 : Nat) (i42 : Int) (d44 : D) (b45 : Bool) (l46 : List D)
def st37_5 (M : Nat) : S37_5 → (S37_5 → Option D) → (X37_5 → Option D) → Option D
  | ⟨n40, n41, i42, i43, d44, b45, l46⟩, rec, K => (cond (ltI i43 (nI n41)) (cond (inb i43 n41) (bd (F38.s FUEL (ix l46 (n40 + i43.toNat)).i) fun r47 => (cond (!r47.b) (cond (inb i42 n41) (rec ⟨n40, n41, (ad .i64 i42 1), (ad .i64 i43 1), d44, b45, (l46.set (n40 + i42.toNat) (ix l46 (n40 + i43.toNat)))⟩) none) (rec ⟨n40, n41, i42, (ad .i64 i43 1), d44, b45, l46⟩))) none) (K (.e0 n40 n41 i42 d44 b45 l46)))
def ex37_5 (k : Kont) : X37_5 → Option D
  | .e0 n40 n41 i42 d44 b45 l46 => k (.exit 0) ((.sref 1 n40 n41) :: (us 4 ((vi i42) :: (us 36 [])))) [(.var k0_ (vk k0_ d44)), (.row 3 true b45 l46)]
def lv37_5 : S37_5 → List Leaf
  | ⟨n40, n41, i42, i43, d44, b45, l46⟩ => [.n n40, .n n41, .i i42, .i i43, .d d44, .b b45, .l l46]
def of37_5 : List Leaf → Option S37_5
  | [.n n40, .n n41, .i i42, .i i43, .d d44, .b b45, .l l46] => some ⟨n40, n41, i42, i43, d44, b45, l46⟩
  | _ => none
def ps37_5 : List PV := ((.sref 1) :: (.d .func (.fn 38)) :: (up 3 ((.d (.int .i64) (.int .i64)) :: (.d (.int .i64) (.int .i64)) :: (up 35 []))))
def qs37_5 : List PO := [q0_, (.row 3 true)]
noncomputable def t (M : Nat) : List Ent := ⟨37, 9, 2, 5, sumS [0, 1, 5, 6] ps37_5 qs37_5 [] of37_5 (st37_5 M) ex37_5 M⟩ :: t5 M
theorem t_ok (M : Nat) : AllOk (e M) (tblOf (t M)) := AllOk.addS (n0 := 2) (lv := lv37_5) (t5_ok M) (by kernel_rfl) rfl (by intro ls s h; unfold of37_5 at h; (repeat' split at h) <;> simp at h; subst h; rfl) (by intro s; kernel_rfl) (by intro s; kernel_rfl) (by intro s nx k; kernel_rfl)
def s (M : Nat) (p0 : D) : Option D :=
  (goS (st3 M) M ⟨0, 0, ((p0.at 0).at 0), (nI ((p0.at 0).at 0).elems.length), 0, p0, false, []⟩ fun x => match x with | .e0 n1 n2 d6 b7 l8 => (goS (st8 M) M ⟨n1, n2, (d6.at 2), (nI (d6.at 2).elems.length), 0, d6, b7, l8⟩ fun x => match x with | .e0 n9 n10 d14 b15 l16 => (goS (st55_2 M) M ⟨n9, n10, (nI n10), 0, d14, b15, l16⟩ fun x => match x with | .e0 i20 d21 b22 l23 => (cond (eqI i20 (-1)) (cond (true && (mx n10)) (cond (ltI (nI n10) 2) (some (dl b22 (((ap (ap (l23.take n9) (sortD ((l23.drop n9).take n10))) (l23.drop (n9 + n10))).drop n9).take n10))) (goS (st29_4 M) M ⟨n9, n10, 1, d21, b22, (ap (ap (l23.take n9) (sortD ((l23.drop n9).take n10))) (l23.drop (n9 + n10)))⟩ fun x => match x with | .e0 n31 n32 i33 d37 b38 l39 => (some (dl b38 (((ap (ap (l39.take (n31 + i33.toNat)) (rp (n32 - i33.toNat) (di 0))) (l39.drop ((n31 + i33.toNat) + (n32 - i33.toNat)))).drop (n31 + 0)).take (i33.toNat - 0)))) | .e1 n25 n26 d28 b29 l30 => (some (dl b29 ((l30.drop n25).take n26))))) none) (goS (st37_5 M) M ⟨n9, n10, i20, (ad .i64 i20 1), d21, b22, l23⟩ fun x => match x with | .e0 n40 n41 i42 d44 b45 l46 => (cond ((leI 0 i42) && (leI i42 (nI n41)) && (leN (n40 + n41) l46.length)) (cond (true && (leI 0 i42) && (leN (n40 + i42.toNat) (ap (ap (l46.take (n40 + i42.toNat)) (rp (n41 - i42.toNat) (di 0))) (l46.drop ((n40 + i42.toNat) + (n41 - i42.toNat)))).length)) (cond (true && (mx (i42.toNat - 0))) (cond (ltI (nI (i42.toNat - 0)) 2) (some (dl b45 (((ap (ap ((ap (ap (l46.take (n40 + i42.toNat)) (rp (n41 - i42.toNat) (di 0))) (l46.drop ((n40 + i42.toNat) + (n41 - i42.toNat)))).take (n40 + 0)) (sortD (((ap (ap (l46.take (n40 + i42.toNat)) (rp (n41 - i42.toNat) (di 0))) (l46.drop ((n40 + i42.toNat) + (n41 - i42.toNat)))).drop (n40 + 0)).take (i42.toNat - 0)))) ((ap (ap (l46.take (n40 + i42.toNat)) (rp (n41 - i42.toNat) (di 0))) (l46.drop ((n40 + i42.toNat) + (n41 - i42.toNat)))).drop ((n40 + 0) + (i42.toNat - 0)))).drop (n40 + 0)).take (i42.toNat - 0)))) (goS (st29_4 M) M ⟨(n40 + 0), (i42.toNat - 0), 1, d44, b45, (ap (ap ((ap (ap (l46.take (n40 + i42.toNat)) (rp (n41 - i42.toNat) (di 0))) (l46.drop ((n40 + i42.toNat) + (n41 - i42.toNat)))).take (n40 + 0)) (sortD (((ap (ap (l46.take (n40 + i42.toNat)) (rp (n41 - i42.toNat) (di 0))) (l46.drop ((n40 + i42.toNat) + (n41 - i42.toNat)))).drop (n40 + 0)).take (i42.toNat - 0)))) ((ap (ap (l46.take (n40 + i42.toNat)) (rp (n41 - i42.toNat) (di 0))) (l46.drop ((n40 + i42.toNat) + (n41 - i42.toNat)))).drop ((n40 + 0) + (i42.toNat - 0))))⟩ fun x => match x with | .e0 n31 n32 i33 d37 b38 l39 => (some (dl b38 (((ap (ap (l39.take (n31 + i33.toNat)) (rp (n32 - i33.toNat) (di 0))) (l39.drop ((n31 + i33.toNat) + (n32 - i33.toNat)))).drop (n31 + 0)).take (i33.toNat - 0)))) | .e1 n25 n26 d28 b29 l30 => (some (dl b29 ((l30.drop n25).take n26))))) none) none) none))) | .e1 d21 b22 l23 => (cond (true && (mx n10)) (cond (ltI (nI n10) 2) (some (dl b22 (((ap (ap (l23.take n9) (sortD ((l23.drop n9).take n10))) (l23.drop (n9 + n10))).drop n9).take n10))) (goS (st29_4 M) M ⟨n9, n10, 1, d21, b22, (ap (ap (l23.take n9) (sortD ((l23.drop n9).take n10))) (l23.drop (n9 + n10)))⟩ fun x => match x with | .e0 n31 n32 i33 d37 b38 l39 => (some (dl b38 (((ap (ap (l39.take (n31 + i33.toNat)) (rp (n32 - i33.toNat) (di 0))) (l39.drop ((n31 + i33.toNat) + (n32 - i33.toNat)))).drop (n31 + 0)).take (i33.toNat - 0)))) | .e1 n25 n26 d28 b29 l30 => (some (dl b29 ((l30.drop n25).take n26))))) none))))
theorem run (M : Nat) (p0 : D) : callS (e M) (tblOf (t M)) 12 (.fn 18) [.d (.struct [26, 3, 22, 3]) p0] [] (fun v H => finish ty [24] v H) = s M p0 := by kernel_rfl
def c : Con := { run := fun ds => match ds with | [p0] => s FUEL p0 | _ => none }
theorem ok : ConOk (18, c) := mkC Try.f18 [(.struct [26, 3, 22, 3])] [24] (by kernel_rfl) (by kernel_rfl) (by kernel_rfl) (by kernel_rfl) (allCons F38.ok allNil) (allCons sort_ok allNil) (t_ok FUEL) fun a => run FUEL a.1
end F18
end Go.AM.SP
namespace Go.AM.SP
open Go Go.AM Go.Proofs Go.RowKit
namespace F8
def cons : List (Nat × Con) := [(13, F13.c), (15, F15.c), (17, F17.c), (18, F18.c), (19, F19.c), (21, F21.c), (22, F22.c)]
def exts : List (Nat × Ext) := []
def h : List (Nat × Nat × Hint) := []
noncomputable def e (M : Nat) : Env := env cons exts h M
def s (M : Nat)  : Option D :=
  (bd (F21.s FUEL (da [(dl false []), (dl false [])]) (da [(di 5), (di 7), (di 3), (di 1)])) fun r1 => (bd (F19.s FUEL r1 1 0 40) fun r2 => (bd (F19.s FUEL (da [(dl false []), (dl true [(di 300), (di 400), (di 500)])]) 2 1 9) fun r3 => (cond (neI (nI r2.elems.length) 1) (some (db false)) (cond (ltI (nI r3.elems.length) 2) (some (db false)) (cond (inb 0 r2.elems.length) (cond (true && (leI 1 (nI r3.elems.length)) && (leN (0 + r3.elems.length) r3.elems.length)) (cond ((r3.elems.drop 1).take (r3.elems.length - 1)).isEmpty (bd (F17.s FUEL (dl true [(da [(di 3), (di 1), (da [(di 0), (di 1), (di 7), (di 5), (dS (bs []))])]), (ix r2.elems 0)])) fun r4 => (cond (mx (2 + ((r3.elems.drop 0).take r3.elems.length).length)) (bd (F17.s FUEL (dl true (((ap [(da [(di 3), (di 1), (da [(di 0), (di 1), (di 7), (di 5), (dS (bs []))])]), (ix r2.elems 0)] ((r3.elems.drop 0).take r3.elems.length)).drop 0).take (2 + ((r3.elems.drop 0).take r3.elems.length).length)))) fun r5 => (bd (F22.s FUEL (dl true [(da [(di 3), (di 1), (da [(di 0), (di 1), (di 7), (di 5), (dS (bs []))])]), (ix r2.elems 0)]) 1) fun r6 => (bd (F15.s FUEL (dl true [(da [(di 3), (di 1), (da [(di 0), (di 1), (di 7), (di 5), (dS (bs []))])]), (ix r2.elems 0)]) 7) fun r7 => (bd (F18.s FUEL (r4.at 0)) fun r8 => (cond (r4.at 1).b (cond (eqI ((r4.at 0).at 1).i 1) (cond (eqI ((r4.at 0).at 3).i 2) (cond (eqI (nI (((r4.at 0).at 0).at 0).elems.length) 1) (cond (r5.at 1).b (cond (eqI ((r5.at 0).at 1).i 2) (cond (r6.at 2).b (cond (eqI (nI (r6.at 1).elems.length) 1) (bd (F13.s FUEL (dl true [(da [(di 3), (di 1), (da [(di 0), (di 1), (di 7), (di 5), (dS (bs []))])]), (ix r2.elems 0)]) r1) fun r9 => (cond r9.b (bd (F13.s FUEL (dl false []) r1) fun r10 => (cond (!r10.b) (cond (eqI (nI r7.elems.length) 1) (cond (inb 0 r7.elems.length) (cond (eqI (ix r7.elems 0).i 3) (cond (eqI (nI r8.elems.length) 2) (cond (inb 0 r8.elems.length) (cond (eqI (ix r8.elems 0).i 0) (cond (inb 1 r8.elems.length) (some (db (eqI (ix r8.elems 1).i 3))) none) (some (db false))) none) (some (db false))) (some (db false))) none) (some (db false))) (some (db false)))) (some (db false)))) (some (db false))) (some (db false))) (some (db false))) (some (db false))) (some (db false))) (some (db false))) (some (db false))) (some (db false))))))) none)) (cond (mx (2 + ((r3.elems.drop 1).take (r3.elems.length - 1)).length)) (bd (F17.s FUEL (dl true (((ap [(da [(di 3), (di 1), (da [(di 0), (di 1), (di 7), (di 5), (dS (bs []))])]), (ix r2.elems 0)] ((r3.elems.drop 1).take (r3.elems.length - 1))).drop 0).take (2 + ((r3.elems.drop 1).take (r3.elems.length - 1)).length)))) fun r11 => (cond (mx (2 + ((r3.elems.drop 0).take r3.elems.length).length)) (bd (F17.s FUEL (dl true (((ap [(da [(di 3), (di 1), (da [(di 0), (di 1), (di 7), (di 5), (dS (bs []))])]), (ix r2.elems 0)] ((r3.elems.drop 0).take r3.elems.length)).drop 0).take (2 + ((r3.elems.drop 0).take r3.elems.length).length)))) fun r12 => (bd (F22.s FUEL (dl true [(da [(di 3), (di 1), (da [(di 0), (di 1), (di 7), (di 5), (dS (bs []))])]), (ix r2.elems 0)]) 1) fun r13 => (bd (F15.s FUEL (dl true [(da [(di 3), (di 1), (da [(di 0), (di 1), (di 7), (di 5), (dS (bs []))])]), (ix r2.elems 0)]) 7) fun r14 => (bd (F18.s FUEL (r11.at 0)) fun r15 => (cond (r11.at 1).b (cond (eqI ((r11.at 0).at 1).i 1) (cond (eqI ((r11.at 0).at 3).i 2) (cond (eqI (nI (((r11.at 0).at 0).at 0).elems.length) 1) (cond (r12.at 1).b (cond (eqI ((r12.at 0).at 1).i 2) (cond (r13.at 2).b (cond (eqI (nI (r13.at 1).elems.length) 1) (bd (F13.s FUEL (dl true [(da [(di 3), (di 1), (da [(di 0), (di 1), (di 7), (di 5), (dS (bs []))])]), (ix r2.elems 0)]) r1) fun r16 => (cond r16.b (bd (F13.s FUEL (dl false []) r1) fun r17 => (cond (!r17.b) (cond (eqI (nI r14.elems.length) 1) (cond (inb 0 r14.elems.length) (cond (eqI (ix r14.elems 0).i 3) (cond (eqI (nI r15.elems.length) 2) (cond (inb 0 r15.elems.length) (cond (eqI (ix r15.elems 0).i 0) (cond (inb 1 r15.elems.length) (some (db (eqI (ix r15.elems 1).i 3))) none) (some (db false))) none) (some (db false))) (some (db false))) none) (some (db false))) (some (db false)))) (some (db false)))) (some (db false))) (some (db false))) (some (db false))) (some (db false))) (some (db false))) (some (db false))) (some (db false))) (some (db false))))))) none)) none)) none) none))))))
theorem run (M : Nat)  : callS (e M) (tblOf []) 12 (.fn 8) [] [] (fun v H => finish ty [4] v H) = s M  := by kernel_rfl
def c : Con := { run := fun ds => match ds with | [] => s FUEL  | _ => none, plain := true }
theorem ok : ConOk (8, c) := mkC Try.f8 [] [4] (by kernel_rfl) (by kernel_rfl) (by kernel_rfl) (by kernel_rfl) (allCons F13.ok (allCons F15.ok (allCons F17.ok (allCons F18.ok (allCons F19.ok (allCons F21.ok (allCons F22.ok allNil))))))) allNil AllOk.nil fun _ => run FUEL
end F8
namespace F9
def cons : List (Nat × Con) := []
def exts : List (Nat × Ext) := []
def h : List (Nat × Nat × Hint) := [(9, 2, { live := [0, 3], out := some [0, 2] })]
noncomputable def e (M : Nat) : Env := env cons exts h M
structure S2 where
  (d1 : D) (i2 : Int)
inductive X2 where
  | e0 (d1 : D)
  | e1 (d1 : D)
def st2 (M : Nat) : S2 → (S2 → Option D) → (X2 → Option D) → Option D
  | ⟨d1, i2⟩, rec, K => (cond (ltI i2 (nI d1.elems.length)) (cond (leI i2 60) (cond (inb i2 d1.elems.length) (cond (gtI (nI (((ix d1.elems i2.toNat).at 2).at 4).s.size) 230) (K (.e0 d1)) (rec ⟨d1, (ad .i64 i2 1)⟩)) none) (K (.e1 d1))) (K (.e1 d1)))
def ex2 (k : Kont) : X2 → Option D
  | .e0 d1 => k .ret ((vk (.slice 45) d1) :: (us 1 ((vb false) :: (us 22 [])))) []
  | .e1 d1 => k (.exit 0) ((vk (.slice 45) d1) :: (us 24 [])) []
def lv2 : S2 → List Leaf
  | ⟨d1, i2⟩ => [.d d1, .i i2]
def of2 : List Leaf → Option S2
  | [.d d1, .i i2] => some ⟨d1, i2⟩
  | _ => none
def ps2 : List PV := ((.d (.slice 45) .x) :: (up 2 ((.d (.int .i64) (.int .i64)) :: (up 21 []))))
def qs2 : List PO := []
noncomputable def t (M : Nat) : List Ent := ⟨9, 11, 0, 2, sumS [0, 3] ps2 qs2 [] of2 (st2 M) ex2 M⟩ :: []
theorem t_ok (M : Nat) : AllOk (e M) (tblOf (t M)) := AllOk.addS (n0 := 0) (lv := lv2) AllOk.nil (by kernel_rfl) rfl (by intro ls s h; unfold of2 at h; (repeat' split at h) <;> simp at h; subst h; rfl) (by intro s; kernel_rfl) (by intro s; kernel_rfl) (by intro s nx k; kernel_rfl)
def s (M : Nat) (p0 : D) : Option D :=
  (goS (st2 M) M ⟨p0, 0⟩ fun x => match x with | .e0 d1 => (some (db false)) | .e1 d1 => (some (db (leI (nI d1.elems.length) 60))))
theorem run (M : Nat) (p0 : D) : callS (e M) (tblOf (t M)) 12 (.fn 9) [.d (.slice 45) p0] [] (fun v H => finish ty [4] v H) = s M p0 := by kernel_rfl
def c : Con := { run := fun ds => match ds with | [p0] => s FUEL p0 | _ => none, plain := true }
theorem ok : ConOk (9, c) := mkC Try.f9 [(.slice 45)] [4] (by kernel_rfl) (by kernel_rfl) (by kernel_rfl) (by kernel_rfl) allNil allNil (t_ok FUEL) fun a => run FUEL a.1
end F9
namespace F11
structure S3 where
  (d1 : D) (n2 n3 : Nat) (i4 : Int) (b5 : Bool) (l6 : List D)
inductive X3 where
  | e0 (n2 n3 : Nat) (b5 : Bool) (l6 : List D)
def st3 (M : Nat) : S3 → (S3 → Option D) → (X3 → Option D) → Option D
  | ⟨d1, n2, n3, i4, b5, l6⟩, rec, K => (cond (ltI i4 (nI d1.elems.length)) (cond (inb i4 d1.elems.length) (cond (inb i4 d1.elems.length) (cond (inb i4 d1.elems.length) (cond (mx (n3 + 1)) (rec ⟨d1, 0, (n3 + 1), (ad .i64 i4 1), (b5 || true), (ap ((l6.drop n2).take n3) [(da [((ix d1.elems i4.toNat).at 0), ((ix d1.elems i4.toNat).at 1), (da [(((ix d1.elems i4.toNat).at 2).at 0), (((ix d1.elems i4.toNat).at 2).at 1), (((ix d1.elems i4.toNat).at 2).at 2), (((ix d1.elems i4.toNat).at 2).at 3), (((ix d1.elems i4.toNat).at 2).at 4)])])])⟩) none) none) none) none) (K (.e0 n2 n3 b5 l6)))
def ex3 (k : Kont) : X3 → Option D
  | .e0 n2 n3 b5 l6 => k (.exit 0) ((us 3 ((.sref 0 n2 n3) :: (us 39 [])))) [(.row 65 true b5 l6)]
def of3 : List Leaf → Option S3
  | [.d d1, .n n2, .n n3, .i i4, .b b5, .l l6] => some ⟨d1, n2, n3, i4, b5, l6⟩
  | _ => none
def s (M : Nat) (p0 : D) : Option D :=
  (goS (st3 M) M ⟨p0, 0, 0, 0, false, []⟩ fun x => match x with | .e0 n2 n3 b5 l6 => (cond ((decide (n3 = l6.length)) && (decide (n2 = 0))) (some (.slice b5 l6)) none))
end F11
namespace F12
def k0_ : K := (.struct [23, 24])
def k1_ : K := (.struct [32, 24])
structure S3 where
  (i1 : Int) (d2 : D) (b3 : Bool) (l4 : List D) (b5 : Bool) (l6 : List D) (n7 n8 : Nat) (d9 : D) (b10 : Bool) (l11 : List D)
inductive X3 where
  | e0 (d2 : D) (b3 : Bool) (l4 : List D) (b5 : Bool) (l6 : List D) (n7 n8 : Nat) (d9 : D) (b10 : Bool) (l11 : List D)
def st3 (M : Nat) : S3 → (S3 → Option D) → (X3 → Option D) → Option D
  | ⟨i1, d2, b3, l4, b5, l6, n7, n8, d9, b10, l11⟩, rec, K => (cond (ltI i1 (nI (d2.at 0).elems.length)) (cond (inb i1 (d2.at 0).elems.length) (cond (mx (n8 + 1)) (rec ⟨(ad .i64 i1 1), d2, b3, l4, b5, l6, 0, (n8 + 1), d9, (b10 || true), (ap ((l11.drop n7).take n8) [(da [((ix (d2.at 0).elems i1.toNat).at 0), ((ix (d2.at 0).elems i1.toNat).at 1), ((ix (d2.at 0).elems i1.toNat).at 2), ((ix (d2.at 0).elems i1.toNat).at 3)])])⟩) none) none) (K (.e0 d2 b3 l4 b5 l6 n7 n8 d9 b10 l11)))
def ex3 (k : Kont) : X3 → Option D
  | .e0 d2 b3 l4 b5 l6 n7 n8 d9 b10 l11 => k (.exit 0) ((us 2 ((.ptr 1 [] k1_) :: (.ptr 2 [] k1_) :: (us 32 [])))) [(.var k0_ (vk k0_ d2)), (.var k1_ (vk k1_ (da [(dl b3 l4), (dl b5 l6)]))), (.var k1_ (.agg k1_ [(.sref 3 n7 n8), (vk (.slice 3) d9)])), (.row 61 true b10 l11)]
def s (M : Nat) (p0 : D) : Option D :=
  (goS (st3 M) M ⟨0, p0, false, [], false, [], 0, 0, (p0.at 1), false, []⟩ fun x => match x with | .e0 d2 b3 l4 b5 l6 n7 n8 d9 b10 l11 => (some (da [(dl b10 ((l11.drop n7).take n8)), d9])))
end F12
namespace F10
def k0_ : K := (.struct [3, 3, 3, 3])
def k1_ : K := (.struct [32, 24])
structure S7 where
  (d4 : D) (i5 : Int) (b6 : Bool) (i7 : Int) (d8 d9 : D)
inductive X7 where
  | e0 (d4 : D) (i5 : Int) (b6 : Bool) (d8 d9 : D)
def st7 (M : Nat) : S7 → (S7 → Option D) → (X7 → Option D) → Option D
  | ⟨d4, i5, b6, i7, d8, d9⟩, rec, K => (cond (ltI i7 (nI d4.elems.length)) (cond (inb i7 d4.elems.length) (cond b6 (rec ⟨d4, i5, true, (ad .i64 i7 1), d8, d9⟩) (cond (inb i7 d4.elems.length) (cond (eqI ((ix d4.elems i7.toNat).at 0).i (d9.at 2).i) (cond (inb i7 d4.elems.length) (cond (eqI ((ix d4.elems i7.toNat).at 1).i (d9.at 3).i) (cond (eqI (((ix d4.elems i7.toNat).at 2).at 0).i 0) (cond (eqI (((ix d4.elems i7.toNat).at 2).at 2).i (d9.at 1).i) (rec ⟨d4, i5, (eqI (((ix d4.elems i7.toNat).at 2).at 3).i (d9.at 0).i), (ad .i64 i7 1), d8, d9⟩) (rec ⟨d4, i5, false, (ad .i64 i7 1), d8, d9⟩)) (rec ⟨d4, i5, false, (ad .i64 i7 1), d8, d9⟩)) (rec ⟨d4, i5, false, (ad .i64 i7 1), d8, d9⟩)) none) (rec ⟨d4, i5, false, (ad .i64 i7 1), d8, d9⟩)) none)) none) (K (.e0 d4 i5 b6 d8 d9)))
def ex7 (k : Kont) : X7 → Option D
  | .e0 d4 i5 b6 d8 d9 => k (.exit 2) ((vk (.slice 65) d4) :: (us 2 ((.ptr 0 [] k1_) :: (us 1 ((vi i5) :: (us 1 ((vb b6) :: (us 67 [])))))))) [(.var k1_ (vk k1_ d8)), (.var k0_ (vk k0_ d9))]
structure S2 where
  (d1 : D) (i2 : Int) (d3 : D)
inductive X2 where
  | e0 (d8 d9 : D)
  | e1 (d3 : D)
def st2 (M : Nat) : S2 → (S2 → Option D) → (X2 → Option D) → Option D
  | ⟨d1, i2, d3⟩, rec, K => (cond (ltI i2 (nI (d3.at 0).elems.length)) (cond (inb i2 (d3.at 0).elems.length) (goS (st7 M) M ⟨d1, i2, false, 0, d3, (ix (d3.at 0).elems i2.toNat)⟩ fun x => match x with | .e0 d4 i5 b6 d8 d9 => (cond (!b6) (K (.e0 d8 d9)) (rec ⟨d4, (ad .i64 i5 1), d8⟩))) none) (K (.e1 d3)))
def ex2 (k : Kont) : X2 → Option D
  | .e0 d8 d9 => k .ret ((us 4 ((vb false) :: (us 70 [])))) [(.var k1_ (vk k1_ d8)), (.var k0_ (vk k0_ d9))]
  | .e1 d3 => k (.exit 0) ((us 75 [])) [(.var k1_ (vk k1_ d3))]
def s (M : Nat) (p0 : D) (p1 : D) : Option D :=
  (goS (st2 M) M ⟨p0, 0, p1⟩ fun x => match x with | .e0 d8 d9 => (some (db false)) | .e1 d3 => (some (db true)))
def c : Con := { run := fun ds => match ds with | [p0, p1] => s FUEL p0 p1 | _ => none, plain := true }
end F10
namespace F26
structure S3 where
  (n1 n2 : Nat) (i3 : Int) (d4 : D) (b5 : Bool) (l6 : List D)
inductive X3 where
  | e0 (n1 n2 : Nat) (d4 : D) (b5 : Bool) (l6 : List D)
def st3 (M : Nat) : S3 → (S3 → Option D) → (X3 → Option D) → Option D
  | ⟨n1, n2, i3, d4, b5, l6⟩, rec, K => (cond (ltI i3 64) (cond (inb i3 64) (cond (d4.at i3.toNat).b (cond (mx (n2 + 1)) (rec ⟨0, (n2 + 1), (ad .i64 i3 1), d4, (b5 || true), (ap ((l6.drop n1).take n2) [(di i3)])⟩) none) (rec ⟨n1, n2, (ad .i64 i3 1), d4, b5, l6⟩)) none) (K (.e0 n1 n2 d4 b5 l6)))
def ex3 (k : Kont) : X3 → Option D
  | .e0 n1 n2 d4 b5 l6 => k (.exit 0) ((us 3 ((.sref 1 n1 n2) :: (us 13 [])))) [(.var (.array 64 4) (vk (.array 64 4) d4)), (.row 3 true b5 l6)]
def s (M : Nat) (p0 : D) : Option D :=
  (goS (st3 M) M ⟨0, 0, 0, p0, false, []⟩ fun x => match x with | .e0 n1 n2 d4 b5 l6 => (cond ((decide (n2 = l6.length)) && (decide (n1 = 0))) (some (.slice b5 l6)) none))
end F26
namespace F16
structure S3 where
  (d1 : D) (i2 i3 : Int) (d4 : D)
inductive X3 where
  | e0 (d4 : D)
def st3 (M : Nat) : S3 → (S3 → Option D) → (X3 → Option D) → Option D
  | ⟨d1, i2, i3, d4⟩, rec, K => (cond (ltI i3 (nI d1.elems.length)) (cond (inb i3 d1.elems.length) (cond (eqI (((ix d1.elems i3.toNat).at 2).at 0).i 0) (cond (inb i3 d1.elems.length) (cond (eqI (((ix d1.elems i3.toNat).at 2).at 2).i i2) (cond (inb i3 d1.elems.length) (cond (geI ((ix d1.elems i3.toNat).at 0).i 0) (cond (inb i3 d1.elems.length) (cond (ltI ((ix d1.elems i3.toNat).at 0).i 64) (cond (inb i3 d1.elems.length) (cond (inb ((ix d1.elems i3.toNat).at 0).i 64) (rec ⟨d1, i2, (ad .i64 i3 1), (D.agg (d4.parts.set ((ix d1.elems i3.toNat).at 0).i.toNat (db true)))⟩) none) none) (rec ⟨d1, i2, (ad .i64 i3 1), d4⟩)) none) (rec ⟨d1, i2, (ad .i64 i3 1), d4⟩)) none) (rec ⟨d1, i2, (ad .i64 i3 1), d4⟩)) none) (rec ⟨d1, i2, (ad .i64 i3 1), d4⟩)) none) (K (.e0 d4)))
def ex3 (k : Kont) : X3 → Option D
  | .e0 d4 => k (.exit 0) ((us 5 ((.ptr 0 [] (.array 64 4)) :: (us 48 [])))) [(.var (.array 64 4) (vk (.array 64 4) d4))]
def s (M : Nat) (p0 : D) (p1 : Int) : Option D :=
  (goS (st3 M) M ⟨p0, p1, 0, (da (rp 64 (db false)))⟩ fun x => match x with | .e0 d4 => (bd (F26.s FUEL d4) fun r5 => (cond ((decide (r5.elems.length = r5.elems.length)) && true) (some (.slice r5.nn r5.elems)) none)))
end F16
namespace F14
structure S4 where
  (d1 d2 : D) (i3 : Int)
inductive X4 where
  | e0
  | e1
def st4 (M : Nat) : S4 → (S4 → Option D) → (X4 → Option D) → Option D
  | ⟨d1, d2, i3⟩, rec, K => (cond (ltI i3 (nI d1.elems.length)) (cond (inb i3 d1.elems.length) (cond (inb i3 d2.elems.length) (cond (neI (ix d1.elems i3.toNat).i (ix d2.elems i3.toNat).i) (K .e0) (rec ⟨d1, d2, (ad .i64 i3 1)⟩)) none) none) (K .e1))
def ex4 (k : Kont) : X4 → Option D
  | .e0  => k .ret ((us 4 ((vb false) :: (us 21 [])))) []
  | .e1  => k (.exit 0) ((us 26 [])) []
def s (M : Nat) (p0 : D) (p1 : D) : Option D :=
  (cond (neI (nI p0.elems.length) (nI p1.elems.length)) (some (db false)) (goS (st4 M) M ⟨p0, p1, 0⟩ fun x => match x with | .e0  => (some (db false)) | .e1  => (some (db true))))
end F14
namespace F3
def s (M : Nat) (p0 : D) (p1 : D) (p2 : Int) : Option D :=
  (bd (F8.s FUEL) fun r1 => (cond (!r1.b) (some (db false)) (bd (F9.s FUEL p0) fun r2 => (cond (!r2.b) (some r1) (cond (gtI (nI (p1.at 0).elems.length) 60) (some r1) (cond (gtI (nI (p1.at 1).elems.length) 60) (some r1) (bd (F11.s FUEL p0) fun r3 => (bd (F12.s FUEL p1) fun r4 => (bd (F10.s FUEL (dl r3.nn ((r3.elems.drop 0).take r3.elems.length)) r4) fun r5 => (cond r1.b (bd (F13.s FUEL p0 p1) fun r6 => (bd (match D.eqv ty eqDepth r6 r5 .bool with | some z => some (.bool z) | none => none) fun r7 => (cond r7.b (bd (F15.s FUEL p0 p2) fun r8 => (bd (F11.s FUEL p0) fun r9 => (bd (F16.s FUEL (dl r9.nn ((r9.elems.drop 0).take r9.elems.length)) p2) fun r10 => (bd (F14.s FUEL r8 (dl r10.nn ((r10.elems.drop 0).take r10.elems.length))) fun r11 => (some r11))))) (some (db false))))) (some (db false))))))))))))
end F3
namespace F4
end F4
namespace F5
end F5
namespace F31
def cons : List (Nat × Con) := []
def exts : List (Nat × Ext) := []
def h : List (Nat × Nat × Hint) := [(31, 4, { live := [0, 1, 12, 13], out := some [4] })]
noncomputable def e (M : Nat) : Env := env cons exts h M
structure S4 where
  (d1 d2 : D) (i3 i4 : Int)
inductive X4 where
  | e0
  | e1
def st4 (M : Nat) : S4 → (S4 → Option D) → (X4 → Option D) → Option D
  | ⟨d1, d2, i3, i4⟩, rec, K => (cond (ltI i4 i3) (cond (inb i4 d1.elems.length) (cond (inb i4 d2.elems.length) (bd (match D.eqv ty eqDepth (ix d1.elems i4.toNat) (ix d2.elems i4.toNat) (.struct [3, 3, 3, 3]) with | some z => some (.bool (!z)) | none => none) fun r5 => (cond r5.b (K .e0) (rec ⟨d1, d2, i3, (ad .i64 i4 1)⟩))) none) none) (K .e1))
def ex4 (k : Kont) : X4 → Option D
  | .e0  => k .ret ((us 4 ((vb false) :: (us 21 [])))) []
  | .e1  => k (.exit 0) ((us 26 [])) []
def lv4 : S4 → List Leaf
  | ⟨d1, d2, i3, i4⟩ => [.d d1, .d d2, .i i3, .i i4]
def of4 : List Leaf → Option S4
  | [.d d1, .d d2, .i i3, .i i4] => some ⟨d1, d2, i3, i4⟩
  | _ => none
def ps4 : List PV := ((.d (.slice 58) .x) :: (.d (.slice 58) .x) :: (up 10 ((.d (.int .i64) (.int .i64)) :: (.d (.int .i64) (.int .i64)) :: (up 12 []))))
def qs4 : List PO := []
noncomputable def t (M : Nat) : List Ent := ⟨31, 11, 0, 4, sumS [0, 1, 12, 13] ps4 qs4 [] of4 (st4 M) ex4 M⟩ :: []
theorem t_ok (M : Nat) : AllOk (e M) (tblOf (t M)) := AllOk.addS (n0 := 0) (lv := lv4) AllOk.nil (by kernel_rfl) rfl (by intro ls s h; unfold of4 at h; (repeat' split at h) <;> simp at h; subst h; rfl) (by intro s; kernel_rfl) (by intro s; kernel_rfl) (by intro s nx k; kernel_rfl)
def s (M : Nat) (p0 : D) (p1 : D) : Option D :=
  (cond (neI (nI p0.elems.length) (nI p1.elems.length)) (some (db false)) (goS (st4 M) M ⟨p0, p1, (nI p0.elems.length), 0⟩ fun x => match x with | .e0  => (some (db false)) | .e1  => (some (db true))))
theorem run (M : Nat) (p0 : D) (p1 : D) : callS (e M) (tblOf (t M)) 12 (.fn 31) [.d (.slice 58) p0, .d (.slice 58) p1] [] (fun v H => finish ty [4] v H) = s M p0 p1 := by kernel_rfl
def c : Con := { run := fun ds => match ds with | [p0, p1] => s FUEL p0 p1 | _ => none, plain := true }
theorem ok : ConOk (31, c) := mkC Try.f31 [(.slice 58), (.slice 58)] [4] (by kernel_rfl) (by kernel_rfl) (by kernel_rfl) (by kernel_rfl) allNil allNil (t_ok FUEL) fun a => run FUEL a.1 a.2.1
end F31
namespace F32
def cons : List (Nat × Con) := []
def exts : List (Nat × Ext) := []
def h : List (Nat × Nat × Hint) := [(32, 4, { live := [0, 1, 12, 13], out := some [4] })]
noncomputable def e (M : Nat) : Env := env cons exts h M
structure S4 where
  (d1 d2 : D) (i3 i4 : Int)
inductive X4 where
  | e0
  | e1
def st4 (M : Nat) : S4 → (S4 → Option D) → (X4 → Option D) → Option D
  | ⟨d1, d2, i3, i4⟩, rec, K => (cond (ltI i4 i3) (cond (inb i4 d1.elems.length) (cond (inb i4 d2.elems.length) (cond (neI (ix d1.elems i4.toNat).i (ix d2.elems i4.toNat).i) (K .e0) (rec ⟨d1, d2, i3, (ad .i64 i4 1)⟩)) none) none) (K .e1))
def ex4 (k : Kont) : X4 → Option D
  | .e0  => k .ret ((us 4 ((vb false) :: (us 21 [])))) []
  | .e1  => k (.exit 0) ((us 26 [])) []
def lv4 : S4 → List Leaf
  | ⟨d1, d2, i3, i4⟩ => [.d d1, .d d2, .i i3, .i i4]
def of4 : List Leaf → Option S4
  | [.d d1, .d d2, .i i3, .i i4] => some ⟨d1, d2, i3, i4⟩
  | _ => none
def ps4 : List PV := ((.d (.slice 3) .x) :: (.d (.slice 3) .x) :: (up 10 ((.d (.int .i64) (.int .i64)) :: (.d (.int .i64) (.int .i64)) :: (up 12 []))))
def qs4 : List PO := []
noncomputable def t (M : Nat) : List Ent := ⟨32, 11, 0, 4, sumS [0, 1, 12, 13] ps4 qs4 [] of4 (st4 M) ex4 M⟩ :: []
theorem t_ok (M : Nat) : AllOk (e M) (tblOf (t M)) := AllOk.addS (n0 := 0) (lv := lv4) AllOk.nil (by kernel_rfl) rfl (by intro ls s h; unfold of4 at h; (repeat' split at h) <;> simp at h; subst h; rfl) (by intro s; kernel_rfl) (by intro s; kernel_rfl) (by intro s nx k; kernel_rfl)
def s (M : Nat) (p0 : D) (p1 : D) : Option D :=
  (cond (neI (nI p0.elems.length) (nI p1.elems.length)) (some (db false)) (goS (st4 M) M ⟨p0, p1, (nI p0.elems.length), 0⟩ fun x => match x with | .e0  => (some (db false)) | .e1  => (some (db true))))
theorem run (M : Nat) (p0 : D) (p1 : D) : callS (e M) (tblOf (t M)) 12 (.fn 32) [.d (.slice 3) p0, .d (.slice 3) p1] [] (fun v H => finish ty [4] v H) = s M p0 p1 := by kernel_rfl
def c : Con := { run := fun ds => match ds with | [p0, p1] => s FUEL p0 p1 | _ => none, plain := true }
theorem ok : ConOk (32, c) := mkC Try.f32 [(.slice 3), (.slice 3)] [4] (by kernel_rfl) (by kernel_rfl) (by kernel_rfl) (by kernel_rfl) allNil allNil (t_ok FUEL) fun a => run FUEL a.1 a.2.1
end F32
namespace F20
def cons : List (Nat × Con) := [(31, F31.c), (32, F32.c)]
def exts : List (Nat × Ext) := []
def h : List (Nat × Nat × Hint) := []
noncomputable def e (M : Nat) : Env := env cons exts h M
def s (M : Nat) (p0 : D) (p1 : D) : Option D :=
  (bd (F31.s FUEL (p0.at 0) (p1.at 0)) fun r1 => (cond r1.b (bd (F32.s FUEL (p0.at 1) (p1.at 1)) fun r2 => (some r2)) (some (db false))))
theorem run (M : Nat) (p0 : D) (p1 : D) : callS (e M) (tblOf []) 12 (.fn 20) [.d (.struct [23, 24]) p0, .d (.struct [23, 24]) p1] [] (fun v H => finish ty [4] v H) = s M p0 p1 := by kernel_rfl
def c : Con := { run := fun ds => match ds with | [p0, p1] => s FUEL p0 p1 | _ => none, plain := true }
theorem ok : ConOk (20, c) := mkC Try.f20 [(.struct [23, 24]), (.struct [23, 24])] [4] (by kernel_rfl) (by kernel_rfl) (by kernel_rfl) (by kernel_rfl) (allCons F31.ok (allCons F32.ok allNil)) allNil AllOk.nil fun a => run FUEL a.1 a.2.1
end F20
namespace F6
def k0_ : K := (.struct [23, 24])
def cons : List (Nat × Con) := [(8, F8.c), (9, F9.c), (17, F17.c), (19, F19.c), (20, F20.c)]
def exts : List (Nat × Ext) := []
def h : List (Nat × Nat × Hint) := [(6, 9, { live := [2, 3, 4, 5, 6, 11, 13, 14], rows := [(13, 45)], out := some [2, 3, 5, 6, 11, 13] })]
def q0_ : PO := (.var k0_ (.d k0_ .x))
noncomputable def e (M : Nat) : Env := env cons exts h M
structure S9 where
  (i3 i4 : Int) (d5 d6 : D) (n7 n8 : Nat) (i9 : Int) (d10 d11 : D) (b12 : Bool) (l13 : List D)
inductive X9 where
  | e0 (i3 i4 : Int) (d6 : D) (n7 n8 : Nat) (d10 d11 : D) (b12 : Bool) (l13 : List D)
def st9 (M : Nat) : S9 → (S9 → Option D) → (X9 → Option D) → Option D
  | ⟨i3, i4, d5, d6, n7, n8, i9, d10, d11, b12, l13⟩, rec, K => (cond (ltI i9 (nI d5.elems.length)) (cond (inb i9 d5.elems.length) (cond (eqI (((ix d5.elems i9.toNat).at 2).at 0).i 0) (cond (inb i9 d5.elems.length) (cond (leI (((ix d5.elems i9.toNat).at 2).at 1).i 9) (cond (inb i9 d5.elems.length) (cond (mx (n8 + 1)) (rec ⟨i3, i4, d5, d6, 0, (n8 + 1), (ad .i64 i9 1), d10, d11, (b12 || true), (ap ((l13.drop n7).take n8) [(ix d5.elems i9.toNat)])⟩) none) none) (rec ⟨i3, i4, d5, d6, n7, n8, (ad .i64 i9 1), d10, d11, b12, l13⟩)) none) (rec ⟨i3, i4, d5, d6, n7, n8, (ad .i64 i9 1), d10, d11, b12, l13⟩)) none) (K (.e0 i3 i4 d6 n7 n8 d10 d11 b12 l13)))
def ex9 (k : Kont) : X9 → Option D
  | .e0 i3 i4 d6 n7 n8 d10 d11 b12 l13 => k (.exit 0) ((us 2 ((vi i3) :: (vi i4) :: (us 1 ((.ptr 0 [] k0_) :: (.ptr 1 [] k0_) :: (us 4 ((vk .bool d6) :: (us 1 ((.sref 2 n7 n8) :: (us 161 [])))))))))) [(.var k0_ (vk k0_ d10)), (.var k0_ (vk k0_ d11)), (.row 45 true b12 l13)]
def lv9 : S9 → List Leaf
  | ⟨i3, i4, d5, d6, n7, n8, i9, d10, d11, b12, l13⟩ => [.i i3, .i i4, .d d5, .d d6, .n n7, .n n8, .i i9, .d d10, .d d11, .b b12, .l l13]
def of9 : List Leaf → Option S9
  | [.i i3, .i i4, .d d5, .d d6, .n n7, .n n8, .i i9, .d d10, .d d11, .b b12, .l l13] => some ⟨i3, i4, d5, d6, n7, n8, i9, d10, d11, b12, l13⟩
  | _ => none
def ps9 : List PV := ((up 2 ((.d (.int .i64) (.int .i64)) :: (.d (.int .i64) (.int .i64)) :: (.d (.slice 45) .x) :: (.ptr 0 [] k0_) :: (.ptr 1 [] k0_) :: (up 4 ((.d .bool .x) :: (up 1 ((.sref 2) :: (.d (.int .i64) (.int .i64)) :: (up 160 []))))))))
def qs9 : List PO := [q0_, q0_, (.row 45 true)]
noncomputable def t (M : Nat) : List Ent := ⟨6, 11, 0, 9, sumS [2, 3, 4, 5, 6, 11, 13, 14] ps9 qs9 [(13, 2)] of9 (st9 M) ex9 M⟩ :: []
theorem t_ok (M : Nat) : AllOk (e M) (tblOf (t M)) := AllOk.addS (n0 := 3) (lv := lv9) AllOk.nil (by kernel_rfl) rfl (by intro ls s h; unfold of9 at h; (repeat' split at h) <;> simp at h; subst h; rfl) (by intro s; kernel_rfl) (by intro s; kernel_rfl) (by intro s nx k; kernel_rfl)
def s (M : Nat) (p0 : D) (p1 : D) (p2 : Int) (p3 : Int) (p4 : D) : Option D :=
  (bd (F8.s FUEL) fun r1 => (cond (!r1.b) (some (db false)) (bd (F9.s FUEL p4) fun r2 => (cond (!r2.b) (some r1) (cond (gtI (nI (p0.at 0).elems.length) 0) (some r1) (cond (gtI (nI (p1.at 0).elems.length) 0) (some r1) (cond (gtI (nI (p0.at 1).elems.length) 60) (some r1) (cond (gtI (nI (p1.at 1).elems.length) 60) (some r1) (goS (st9 M) M ⟨p2, p3, p4, r1, 0, 0, 0, p0, p1, false, []⟩ fun x => match x with | .e0 i3 i4 d6 n7 n8 d10 d11 b12 l13 => (bd (F19.s FUEL d10 5 1 i3) fun r14 => (bd (F19.s FUEL d11 7 2 i3) fun r15 => (cond (eqI (nI r14.elems.length) 0) (some d6) (cond (eqI (nI r15.elems.length) 0) (some d6) (cond (ltI i4 0) (some d6) (cond (geI i4 (nI r15.elems.length)) (some d6) (cond (mx ((l13.drop n7).take n8).length) (cond (mx (((l13.drop n7).take n8).length + ((r14.elems.drop 0).take r14.elems.length).length)) (cond (true && (leI 0 i4) && (leN (0 + i4.toNat) r15.elems.length)) (cond (mx ((((l13.drop n7).take n8).length + ((r14.elems.drop 0).take r14.elems.length).length) + ((r15.elems.drop 0).take (i4.toNat - 0)).length)) (cond ((leI 0 (ad .i64 i4 1)) && (leI (ad .i64 i4 1) (nI r15.elems.length)) && (leN (0 + r15.elems.length) r15.elems.length)) (cond (mx (((((l13.drop n7).take n8).length + ((r14.elems.drop 0).take r14.elems.length).length) + ((r15.elems.drop 0).take (i4.toNat - 0)).length) + ((r15.elems.drop (0 + (ad .i64 i4 1).toNat)).take (r15.elems.length - (ad .i64 i4 1).toNat)).length)) (cond (mx ((r15.elems.drop 0).take r15.elems.length).length) (cond (mx (((r15.elems.drop 0).take r15.elems.length).length + ((l13.drop n7).take n8).length)) (cond (mx ((((r15.elems.drop 0).take r15.elems.length).length + ((l13.drop n7).take n8).length) + ((r14.elems.drop 0).take r14.elems.length).length)) (bd (F17.s FUEL (dl ((((!((l13.drop n7).take n8).isEmpty) || (!((r14.elems.drop 0).take r14.elems.length).isEmpty)) || (!((r15.elems.drop 0).take (i4.toNat - 0)).isEmpty)) || (!((r15.elems.drop (0 + (ad .i64 i4 1).toNat)).take (r15.elems.length - (ad .i64 i4 1).toNat)).isEmpty)) (((ap (((ap (((ap ((((l13.drop n7).take n8).drop 0).take ((l13.drop n7).take n8).length) ((r14.elems.drop 0).take r14.elems.length)).drop 0).take (((l13.drop n7).take n8).length + ((r14.elems.drop 0).take r14.elems.length).length)) ((r15.elems.drop 0).take (i4.toNat - 0))).drop 0).take ((((l13.drop n7).take n8).length + ((r14.elems.drop 0).take r14.elems.length).length) + ((r15.elems.drop 0).take (i4.toNat - 0)).length)) ((r15.elems.drop (0 + (ad .i64 i4 1).toNat)).take (r15.elems.length - (ad .i64 i4 1).toNat))).drop 0).take (((((l13.drop n7).take n8).length + ((r14.elems.drop 0).take r14.elems.length).length) + ((r15.elems.drop 0).take (i4.toNat - 0)).length) + ((r15.elems.drop (0 + (ad .i64 i4 1).toNat)).take (r15.elems.length - (ad .i64 i4 1).toNat)).length)))) fun r16 => (bd (F17.s FUEL (dl (((!((r15.elems.drop 0).take r15.elems.length).isEmpty) || (!((l13.drop n7).take n8).isEmpty)) || (!((r14.elems.drop 0).take r14.elems.length).isEmpty)) (((ap (((ap ((((r15.elems.drop 0).take r15.elems.length).drop 0).take ((r15.elems.drop 0).take r15.elems.length).length) ((l13.drop n7).take n8)).drop 0).take (((r15.elems.drop 0).take r15.elems.length).length + ((l13.drop n7).take n8).length)) ((r14.elems.drop 0).take r14.elems.length)).drop 0).take ((((r15.elems.drop 0).take r15.elems.length).length + ((l13.drop n7).take n8).length) + ((r14.elems.drop 0).take r14.elems.length).length)))) fun r17 => (cond d6.b (cond (r16.at 1).b (cond (eqI ((r16.at 0).at 1).i 5) (bd (F20.s FUEL ((r16.at 0).at 0) d10) fun r18 => (cond r18.b (cond (r17.at 1).b (cond (eqI ((r17.at 0).at 1).i 7) (bd (F20.s FUEL ((r17.at 0).at 0) d11) fun r19 => (cond r19.b (some (db (geI ((r17.at 0).at 3).i 7))) (some (db false)))) (some (db false))) (some (db false))) (some (db false)))) (some (db false))) (some (db false))) (some (db false))))) none) none) none) none) none) none) none) none) none))))))))))))))))
theorem run (M : Nat) (p0 : D) (p1 : D) (p2 : Int) (p3 : Int) (p4 : D) : callS (e M) (tblOf (t M)) 12 (.fn 6) [.d (.struct [23, 24]) p0, .d (.struct [23, 24]) p1, .d (.int .i64) (di p2), .d (.int .i64) (di p3), .d (.slice 45) p4] [] (fun v H => finish ty [4] v H) = s M p0 p1 p2 p3 p4 := by kernel_rfl
def c : Con := { run := fun ds => match ds with | [p0, p1, p2, p3, p4] => s FUEL p0 p1 p2.i p3.i p4 | _ => none, plain := true }
theorem fun_at : Try.prog.funcs[6]? = some Try.f6 := by kernel_rfl
theorem params : Try.f6.params.toList.map ty = [(.struct [23, 24]), (.struct [23, 24]), (.int .i64), (.int .i64), (.slice 45)] := by kernel_rfl
theorem ok : ConOk (6, c) := mkC Try.f6 [(.struct [23, 24]), (.struct [23, 24]), (.int .i64), (.int .i64), (.slice 45)] [4] (by kernel_rfl) (by kernel_rfl) (by kernel_rfl) (by kernel_rfl) (allCons F8.ok (allCons F9.ok (allCons F17.ok (allCons F19.ok (allCons F20.ok allNil))))) allNil (t_ok FUEL) fun a => run FUEL a.1 a.2.1 a.2.2.1 a.2.2.2.1 a.2.2.2.2.1
end F6
namespace F7
end F7
end Go.AM.SP
namespace Go.AM
open Go Go.RowKit Go.ChangeShapes Go.WideShapes Go.ChangeAt Go.WideElems
mutual
def D.wf : D → Prop
  | .int k n => k.min ≤ n ∧ n ≤ k.max
  | .str s => s.size ≤ 9223372036854775807
  | .agg ds => D.wfs ds
  | .slice _ ds => ds.length ≤ 9223372036854775807 ∧ D.wfs ds
  | .iface _ x => D.wf x
  | .tup ds => D.wfs ds
  | _ => True
def D.wfs : List D → Prop
  | [] => True
  | d :: ds => D.wf d ∧ D.wfs ds
end
def K.dat (ty : Nat → K) : Nat → K → Bool
  | _, .bool => true
  | _, .int _ => true
  | _, .str => true
  | n + 1, .struct fs => !fs.isEmpty && fs.all fun f => K.dat ty n (ty f)
  | n + 1, .array m e => decide (0 < m) && K.dat ty n (ty e)
  | n + 1, .slice e => K.dat ty n (ty e)
  | _, _ => false
section
variable {P : Program} {ty : Nat → K} {H : Type} {enc : TypeId × Value → H} {w : World} {sp : Nat → Bool} {held : Bool}
theorem wfs_of : ∀ {ds : List D}, (∀ d ∈ ds, D.wf d) → D.wfs ds
  | [], _ => by simp [D.wfs]
  | d :: ds, h => by simp only [D.wfs]; exact ⟨h d (by simp), wfs_of fun x hx => h x (by simp [hx])⟩
theorem wfs_mem : ∀ {ds : List D}, D.wfs ds → ∀ d ∈ ds, D.wf d
  | [], _, _, h => by simp at h
  | a :: ds, h, d, hd => by
    simp only [D.wfs] at h
    rcases List.mem_cons.1 hd with rfl | hd
    · exact h.1
    · exact wfs_mem h.2 d hd
theorem reps_of {M : Mem} : ∀ (n : Nat) (κ : Nat → K) (part : Nat → List Value), (∀ i, i < n → ∃ x v, v.cells.toList = part i ∧ Rep ty M x (κ i) v ∧ D.wf x) →
    ∃ ds, Reps ty M ds ((List.range n).map κ) ((List.range n).map part).flatten ∧ D.wfs ds ∧ ds.length = n
  | 0, κ, part, h => ⟨[], by simp [Reps], by simp [D.wfs], rfl⟩
  | n + 1, κ, part, h => by
    obtain ⟨ds, h1, h2, h3⟩ := reps_of n κ part (fun i hi => h i (by omega))
    obtain ⟨x, v, e, hr, hw⟩ := h n (by omega)
    refine ⟨ds ++ [x], ?_, ?_, by simp [h3]⟩
    · rw [List.range_succ, List.map_append, List.map_append, List.flatten_append]
      refine h1.append ?_
      simp only [List.map_cons, List.map_nil, List.flatten_cons, List.flatten_nil, List.append_nil, ← e]
      exact Reps.one hr
    · refine wfs_of fun d hd => ?_
      rcases List.mem_append.1 hd with hd | hd
      · exact wfs_mem h2 d hd
      · simp at hd; subst hd; exact hw
theorem chop (n k : Nat) (cs : List Value) (h : cs.length = n * k) : ((List.range n).map fun i => (cs.drop (i * k)).take k).flatten = cs := by
  induction n generalizing cs with
  | zero => simp at h; simp [h]
  | succ n ih =>
    rw [List.range_succ_eq_map]
    simp only [List.map_cons, List.map_map, List.flatten_cons]
    have h2 : (List.map ((fun i => (cs.drop (i * k)).take k) ∘ Nat.succ) (List.range n)) = (List.range n).map fun i => ((cs.drop k).drop (i * k)).take k := by
      apply List.map_congr_left
      intro i _
      simp only [Function.comp, List.drop_drop]
      congr 2
      rw [Nat.succ_mul]; omega
    rw [h2, ih (cs.drop k) (by rw [List.length_drop, h, Nat.succ_mul]; omega)]
    simp
theorem chopF {fields : Array Field} {P : Program} (cs : List Value) (ho : ∀ (j : Nat) (f : Field), fields[j]? = some f → f.offset = kOff P.cellsOf (.struct (fields.toList.map (·.type))) j)
    (hl : cs.length = ((fields.toList.map (·.type)).map P.cellsOf).sum) :
    ((List.range fields.size).map fun i => match fields[i]? with | some f => (cs.drop f.offset).take (P.cellsOf f.type) | none => []).flatten = cs := by
  have key : ∀ n, n ≤ fields.size → ((List.range n).map fun i => match fields[i]? with | some f => (cs.drop f.offset).take (P.cellsOf f.type) | none => []).flatten = cs.take ((((fields.toList.map (·.type)).take n).map P.cellsOf).sum) := by
    intro n
    induction n with
    | zero => intro _; simp
    | succ n ih =>
      intro hn
      rw [List.range_succ, List.map_append, List.flatten_append, ih (by omega)]
      have hf : fields[n]? = some fields[n] := by simp [show n < fields.size by omega]
      simp only [List.map_cons, List.map_nil, List.flatten_cons, List.flatten_nil, List.append_nil, hf]
      have h1 := ho n _ hf
      simp only [kOff] at h1
      have h2 : (fields.toList.map (·.type)).take (n + 1) = (fields.toList.map (·.type)).take n ++ [fields[n].type] := by
        rw [List.take_succ_eq_append_getElem (by simp; omega)]
        simp
      rw [h2, List.map_append, List.sum_append, h1, List.take_add]
      simp
  rw [key _ (Nat.le_refl _), List.take_of_length_le]
  rw [hl, List.take_of_length_le (by simp)]
  exact Nat.le_refl _
theorem spot_none {a : Addr} {v : Value} (h : w.cell? a = some v) : a.spot = none := by
  unfold World.cell? at h
  split at h
  · split at h
    · simp at h
    · rename_i hs; simpa using hs
  · simp at h
theorem mapM_get {α : Type} : ∀ {l : List Nat} {g : Nat → Option α} {ys : List α}, l.mapM g = some ys → ∀ (i : Nat) (y : α), ys[i]? = some y → ∃ n, l[i]? = some n ∧ g n = some y
  | [], g, ys, h, i, y, hy => by simp at h; subst h; simp at hy
  | a :: l, g, ys, h, i, y, hy => by
    simp only [List.mapM_cons, Option.bind_eq_bind, Option.bind_eq_some_iff, Option.pure_def, Option.some.injEq] at h
    obtain ⟨b, hb, rest, hr, rfl⟩ := h
    cases i with
    | zero => simp at hy; subst hy; exact ⟨a, rfl, hb⟩
    | succ i => simpa using mapM_get hr i y (by simpa using hy)
theorem mapM_len {α : Type} : ∀ {l : List Nat} {g : Nat → Option α} {ys : List α}, l.mapM g = some ys → ys.length = l.length
  | [], g, ys, h => by simp at h; subst h; rfl
  | a :: l, g, ys, h => by
    simp only [List.mapM_cons, Option.bind_eq_bind, Option.bind_eq_some_iff, Option.pure_def, Option.some.injEq] at h
    obtain ⟨b, hb, rest, hr, rfl⟩ := h
    simp [mapM_len hr]
theorem dat_ne {n t : Nat} (h : K.dat ty n (ty t) = true) : ty t ≠ .bad := by intro hb; rw [hb] at h; cases n <;> simp [K.dat] at h
theorem dat_pos (T : TyOk P ty) : ∀ (n t : Nat), K.dat ty n (ty t) = true → 0 < P.cellsOf t
  | n, t, h => by
    rw [T.szOk t (dat_ne h)]
    cases hk : ty t with
    | struct fs =>
      rw [hk] at h
      cases n with
      | zero => simp [K.dat] at h
      | succ n =>
        simp only [K.dat, Bool.and_eq_true, List.all_eq_true] at h
        cases fs with
        | nil => simp at h
        | cons f fs =>
          have := dat_pos T n f (h.2 f (by simp))
          simp only [ksz, List.map_cons, List.sum_cons]
          omega
    | array m e =>
      rw [hk] at h
      cases n with
      | zero => simp [K.dat] at h
      | succ n =>
        simp only [K.dat, Bool.and_eq_true, decide_eq_true_eq] at h
        have := dat_pos T n e h.2
        simp only [ksz]
        exact Nat.mul_pos h.1 this
    | _ => simp [ksz]
theorem trod_rep (T : TyOk P ty) : ∀ (fuel t : Nat) (cs : List Value) (x : DataW H × List MemPlace) (n : Nat), DataW.trod enc P w 0 sp held fuel t cs = some x → K.dat ty n (ty t) = true →
    ∃ y v, v.cells.toList = cs ∧ Rep ty (memOf w []) y (ty t) v ∧ D.wf y
  | 0, t, cs, x, n, h, _ => by simp [DataW.trod] at h
  | fuel + 1, t, cs, x, n, h, hd => by
    have hne : ty t ≠ .bad := by intro hb; rw [hb] at hd; cases n <;> simp [K.dat] at hd
    obtain ⟨i, hi⟩ := T t hne
    have hdesc := hi.desc
    cases hk : ty t with
    | bool =>
      rw [hk] at hdesc
      simp only [descOk] at hdesc
      obtain ⟨b, rfl, rfl⟩ := DataW.trod_bool hdesc h
      exact ⟨.bool b, .bool b, by simp [Value.cells], by simp [Rep], by simp [D.wf]⟩
    | int k =>
      rw [hk] at hdesc
      simp only [descOk] at hdesc
      obtain ⟨m, rfl, rfl, hw⟩ := DataW.trod_int hdesc h
      refine ⟨.int k m, .int k m, by simp [Value.cells], by simp [Rep], ?_⟩
      simpa [Lit.wf, D.wf] using hw
    | str =>
      rw [hk] at hdesc
      simp only [descOk] at hdesc
      obtain ⟨s, rfl, rfl, hs⟩ := DataW.trod_string hdesc h
      exact ⟨.str s, .string s, by simp [Value.cells], by simp [Rep], by simpa [D.wf, Go.maxLen] using hs⟩
    | struct fs =>
      rw [hk] at hdesc
      simp only [descOk] at hdesc
      obtain ⟨fields, h1, h2, h3⟩ := hdesc
      obtain ⟨xs, m, hm, rfl, hl, hxs, hE⟩ := DataW.trod_struct h1 h
      obtain rfl : m = fuel := by omega
      cases n with
      | zero => rw [hk] at hd; simp [K.dat] at hd
      | succ n =>
      rw [hk] at hd
      simp only [K.dat, Bool.and_eq_true, List.all_eq_true] at hd
      have hsz : P.cellsOf t = (fs.map P.cellsOf).sum := by rw [T.szOk t hne, hk]; rfl
      obtain ⟨ds, r1, r2, r3⟩ := reps_of (ty := ty) (M := memOf w []) fields.size (fun i => match fields[i]? with | some f => ty f.type | none => .bad) (fun i => match fields[i]? with | some f => (cs.drop f.offset).take (P.cellsOf f.type) | none => []) (fun i hi => by
        have hf : fields[i]? = some fields[i] := by simp [hi]
        simp only [hf]
        have he := hE i _ hf
        have hx : xs[i]? = some xs[i] := by simp [show i < xs.length by omega]
        rw [hx] at he
        refine trod_rep T m _ _ _ n he (hd.2 _ ?_)
        rw [← h2]
        exact List.mem_map.2 ⟨fields[i], by simp, rfl⟩)
      rw [chopF cs (fun j f hj => by have := (h3 j f hj).1; rw [h2]; exact this) (by rw [hl, hsz, h2])] at r1
      refine ⟨.agg ds, .agg cs.toArray, by simp [Value.cells], ?_, by simpa [D.wf] using r2⟩
      simp only [Rep, K.isAgg]
      refine ⟨trivial, cs.toArray, rfl, ?_⟩
      have hks : (List.range fields.size).map (fun i => match fields[i]? with | some f => ty f.type | none => .bad) = (K.struct fs).kids ty := by
        simp only [K.kids, ← h2, List.map_map]
        apply List.ext_getElem
        · simp
        · intro i h1 h2
          simp at h1
          simp [h1]
      rw [hks] at r1
      simpa using r1
    | array m e =>
      rw [hk] at hdesc
      simp only [descOk] at hdesc
      obtain ⟨xs, m', hm, rfl, hl, hxs, hE⟩ := DataW.trod_array hdesc.1 h
      obtain rfl : m' = fuel := by omega
      cases n with
      | zero => rw [hk] at hd; simp [K.dat] at hd
      | succ n =>
      rw [hk] at hd
      simp only [K.dat, Bool.and_eq_true] at hd
      have hsz : P.cellsOf t = m * P.cellsOf e := by rw [T.szOk t hne, hk]; rfl
      obtain ⟨ds, r1, r2, r3⟩ := reps_of (ty := ty) (M := memOf w []) m (fun _ => ty e) (fun i => (cs.drop (i * P.cellsOf e)).take (P.cellsOf e)) (fun i hi => by
        have he := hE i hi
        have hx : xs[i]? = some xs[i] := by simp [show i < xs.length by omega]
        rw [hx] at he
        exact trod_rep T m' _ _ _ n he hd.2)
      rw [chop m _ cs (by rw [hl, hsz])] at r1
      refine ⟨.agg ds, .agg cs.toArray, by simp [Value.cells], ?_, by simpa [D.wf] using r2⟩
      simp only [Rep, K.isAgg]
      refine ⟨trivial, cs.toArray, rfl, ?_⟩
      simp only [K.kids]
      have hrep : (List.range m).map (fun _ => ty e) = List.replicate m (ty e) := by
        apply List.ext_getElem <;> simp
      rw [hrep] at r1
      simpa using r1
    | slice e =>
      rw [hk] at hdesc
      simp only [descOk] at hdesc
      cases n with
      | zero => rw [hk] at hd; simp [K.dat] at hd
      | succ n =>
      rw [hk] at hd
      simp only [K.dat] at hd
      rcases DataW.trod_slice hdesc.1 h with ⟨rfl, rfl⟩ | ⟨a, len, cap, elems, rest, m', hm, rfl, rfl, _, hlc, hcm, hel, hE, _, _⟩
      · exact ⟨.slice false [], .slice none 0 0, by simp [Value.cells], by simp only [Rep]; exact ⟨e, none, 0, rfl, rfl, Nat.zero_le _, rfl, fun _ => rfl, .inl trivial⟩, by simp [D.wf, D.wfs]⟩
      · obtain rfl : m' = fuel := by omega
        have hcell : ∀ i, i < len → ∃ c1, w.cells? 0 (a.add (i * P.cellsOf e)) (P.cellsOf e) = some c1 ∧ ∃ y v, v.cells.toList = c1 ∧ Rep ty (memOf w []) y (ty e) v ∧ D.wf y := by
          intro i hi
          have he := hE i hi
          have hx : elems[i]? = some elems[i] := by simp [show i < elems.length by omega]
          rw [hx] at he
          simp only [Option.bind_eq_some_iff] at he
          obtain ⟨c1, hc1, he⟩ := he
          exact ⟨c1, hc1, trod_rep T m' _ _ _ n he hd⟩
        obtain ⟨ds, r1, r2, r3⟩ := reps_of (ty := ty) (M := memOf w []) len (fun _ => ty e) (fun i => (w.cells? 0 (a.add (i * P.cellsOf e)) (P.cellsOf e)).getD []) (fun i hi => by
          obtain ⟨c1, h1, y, v, h2, h3, h4⟩ := hcell i hi
          exact ⟨y, v, by rw [h1]; exact h2, h3, h4⟩)
        have hrep : (List.range len).map (fun _ => ty e) = List.replicate ds.length (ty e) := by
          rw [r3]; apply List.ext_getElem <;> simp
        rw [hrep] at r1
        refine ⟨.slice true ds, .slice (some a) len cap, by simp [Value.cells], ?_, by simp only [D.wf]; exact ⟨by rw [r3]; simp [Go.maxLen] at hcm; omega, r2⟩⟩
        simp only [Rep, r3]
        refine ⟨e, some a, cap, rfl, rfl, hlc, rfl, by simp, ?_⟩
        by_cases hl0 : len = 0
        · exact .inl (List.eq_nil_of_length_eq_zero (by omega))
        · right
          have hcsz : 0 < P.cellsOf e ∨ P.cellsOf e = 0 := by omega
          refine ⟨a, _, rfl, ?_, by rw [r3] at r1; exact r1⟩
          have hlen : ∀ i, i < len → ((w.cells? 0 (a.add (i * P.cellsOf e)) (P.cellsOf e)).getD []).length = P.cellsOf e := by
            intro i hi
            obtain ⟨c1, h1, _⟩ := hcell i hi
            rw [h1]
            simp only [World.cells?, Nat.zero_le, if_true] at h1
            simpa using mapM_len h1
          have hcells : ∀ i, i < len → ∀ j (v : Value), ((w.cells? 0 (a.add (i * P.cellsOf e)) (P.cellsOf e)).getD [])[j]? = some v → w.cell? ((a.add (i * P.cellsOf e)).add j) = some v := by
            intro i hi j v hv
            obtain ⟨c1, h1, _⟩ := hcell i hi
            rw [h1] at hv
            simp only [World.cells?, Nat.zero_le, if_true] at h1
            obtain ⟨k, hk1, hk2⟩ := mapM_get h1 j v hv
            have : k = j := by
              have := List.getElem?_eq_some_iff.1 hk1
              obtain ⟨_, h⟩ := this
              simpa using h.symm
            rw [← this]; exact hk2
          have hflat : ∀ (m : Nat) (g : Nat → List Value), (∀ i, i < m → (g i).length = P.cellsOf e) → ∀ (j : Nat) (v : Value), (((List.range m).map g).flatten)[j]? = some v → ∃ i r, i < m ∧ r < P.cellsOf e ∧ j = i * P.cellsOf e + r ∧ (g i)[r]? = some v := by
            intro m g
            induction m with
            | zero => intro _ j v hv; simp at hv
            | succ m ih =>
              intro hg j v hv
              have hl : (((List.range m).map g).flatten).length = m * P.cellsOf e := by
                rw [List.length_flatten, List.map_map]
                have : List.map (List.length ∘ g) (List.range m) = List.replicate m (P.cellsOf e) := by
                  apply List.ext_getElem
                  · simp
                  · intro i h1 h2; simp at h1; simp [hg i (by omega)]
                rw [this]; simp
              rw [List.range_succ, List.map_append, List.flatten_append] at hv
              by_cases hj : j < m * P.cellsOf e
              · rw [List.getElem?_append_left (by omega)] at hv
                obtain ⟨i, r, h1, h2, h3, h4⟩ := ih (fun i hi => hg i (by omega)) j v hv
                exact ⟨i, r, by omega, h2, h3, h4⟩
              · rw [List.getElem?_append_right (by omega), hl] at hv
                simp only [List.map_cons, List.map_nil, List.flatten_cons, List.flatten_nil, List.append_nil] at hv
                have hlt := (List.getElem?_eq_some_iff.1 hv).1
                rw [hg m (by omega)] at hlt
                exact ⟨m, j - m * P.cellsOf e, by omega, hlt, by omega, hv⟩
          have hat : ∀ (j : Nat) (v : Value), (((List.range len).map fun i => (w.cells? 0 (a.add (i * P.cellsOf e)) (P.cellsOf e)).getD []).flatten)[j]? = some v → w.cell? (a.add j) = some v := by
            intro j v hv
            obtain ⟨i, r, h1, h2, rfl, h4⟩ := hflat len _ hlen j v hv
            have := hcells i h1 r v h4
            have hadd : (a.add (i * P.cellsOf e)).add r = a.add (i * P.cellsOf e + r) := by
              cases a
              simp only [Addr.add]
              split <;> split <;> (try split) <;> simp_all <;> omega
            rw [← hadd]; exact this
          have h0 := dat_pos T n e hd
          have hspot : a.spot = none := by
            have h1 := hlen 0 (by omega)
            simp only [Nat.zero_mul] at h1
            have h2 := hcells 0 (by omega) 0
            simp only [Nat.zero_mul] at h2
            have h3 := h2 _ (List.getElem?_eq_getElem (by omega))
            have h4 : (a.add 0).add 0 = a := by simp [Addr.add]
            rw [h4] at h3
            exact spot_none h3
          refine ⟨hspot, fun j v hv => ?_⟩
          have := hat j v hv
          rw [addr_add hspot] at this
          simpa [memOf] using this
    | map a e => rw [hk] at hd; cases n <;> simp [K.dat] at hd
    | iface m => rw [hk] at hd; cases n <;> simp [K.dat] at hd
    | ptr e => rw [hk] at hd; cases n <;> simp [K.dat] at hd
    | func => rw [hk] at hd; cases n <;> simp [K.dat] at hd
    | bad => exact absurd hk hne
theorem agg_cells {v v' : Value} {t : Nat} {κ : K} {M : Mem} {y : D} (T : TyOk P ty) (hk : ty t = κ) {r : Reach} {base : Nat} {W : World} (hok : Value.okWide P W r base t v) (hd : K.dat ty 20 κ = true) (hc : v'.cells.toList = v.cells.toList) (hr : Rep ty M y κ v') : v' = v := by
  have hne : ty t ≠ .bad := dat_ne (n := 20) (hk ▸ hd)
  obtain ⟨i, hi⟩ := T t hne
  have hdesc := hi.desc
  rw [hk] at hdesc
  have hca : v'.cells = v.cells := Array.toList_inj.1 hc
  cases κ with
  | bool =>
    simp only [descOk] at hdesc
    cases v <;> simp [Value.okWide, Cell.okWide, Cell.ok, hdesc] at hok
    have := rep_bool hr
    subst this
    simpa [Value.cells] using hc
  | int k =>
    simp only [descOk] at hdesc
    cases v <;> simp [Value.okWide, Cell.okWide, Cell.ok, hdesc] at hok
    have := rep_int hr
    subst this
    simpa [Value.cells] using hc
  | str =>
    simp only [descOk] at hdesc
    cases v <;> simp [Value.okWide, Cell.okWide, Cell.ok, hdesc] at hok
    have := rep_str hr
    subst this
    simpa [Value.cells] using hc
  | struct fs =>
    simp only [descOk] at hdesc
    obtain ⟨fields, h1, _⟩ := hdesc
    simp only [Value.okWide, h1] at hok
    obtain ⟨cs, rfl, _⟩ := hok
    obtain ⟨ds, cs', _, rfl, _⟩ := Rep.isAgg hr rfl
    simp [Value.cells] at hca
    rw [hca]
  | array n e =>
    simp only [descOk] at hdesc
    simp only [Value.okWide, hdesc.1] at hok
    obtain ⟨cs, rfl, _⟩ := hok
    obtain ⟨ds, cs', _, rfl, _⟩ := Rep.isAgg hr rfl
    simp [Value.cells] at hca
    rw [hca]
  | slice e =>
    simp only [descOk] at hdesc
    have hv : ∃ a l c, v = .slice a l c := by
      cases v <;> simp [Value.okWide, Cell.okWide, Cell.ok, hdesc] at hok
      exact ⟨_, _, _, rfl⟩
    obtain ⟨a, l, c, rfl⟩ := hv
    have hs := (Rep.scal ty _ _ _ hr).1 rfl
    rw [cells_scal hs] at hca
    simpa [Value.cells] using hca
  | map a e => simp [K.dat] at hd
  | iface m => simp [K.dat] at hd
  | ptr e => simp [K.dat] at hd
  | func => simp [K.dat] at hd
  | bad => simp [K.dat] at hd
theorem trodAll_each (T : TyOk P ty) {W : World} {r : Reach} {base : Nat} : ∀ (ts : List Nat) (vs : List Value) (ds : List (DataW H)) (ps : List MemPlace), DataW.TrodAll enc P w 0 sp held ts vs ds ps → (∀ t ∈ ts, K.dat ty 20 (ty t) = true) →
    (∀ (j : Nat) t v, ts[j]? = some t → vs[j]? = some v → Value.okWide P W r base t v) → ∃ xs, Each ty (memOf w []) xs (ts.map ty) vs ∧ D.wfs xs
  | [], vs, ds, ps, h, _, _ => by
    obtain ⟨rfl, _, _⟩ := trodAll_nil h
    exact ⟨[], by simp [Each], by simp [D.wfs]⟩
  | t :: ts, vs, ds, ps, h, hd, hok => by
    obtain ⟨v, vs', d, ds', p, q, rfl, rfl, rfl, ⟨fuel, h1⟩, h2⟩ := trodAll_cons h
    obtain ⟨y, v', e1, e2, e3⟩ := trod_rep T fuel t _ _ 20 h1 (hd t (by simp))
    obtain rfl := agg_cells T rfl (hok 0 t v rfl rfl) (hd t (by simp)) e1 e2
    obtain ⟨xs, g1, g2⟩ := trodAll_each T ts vs' ds' q h2 (fun t ht => hd t (by simp [ht])) (fun j t v hj hv => hok (j + 1) t v (by simpa using hj) (by simpa using hv))
    exact ⟨y :: xs, by simp only [List.map_cons, Each]; exact ⟨_, _, _, _, rfl, rfl, e2, g1⟩, by simp only [D.wfs]; exact ⟨e3, g2⟩⟩
theorem each_hass {M : Mem} : ∀ {ds : List D} {κs : List K} {xs : List Value}, Each ty M ds κs xs → D.hass ty ds κs
  | [], _, _, h => by simp only [Each] at h; simp only [D.hass]; exact h.1
  | d :: ds, _, _, h => by
    simp only [Each] at h
    obtain ⟨κ, κs', x, rest, rfl, rfl, h1, h2⟩ := h
    simp only [D.hass]
    exact ⟨κ, κs', rfl, rep_has _ _ _ h1, each_hass h2⟩
theorem trodAll_stays {P : Program} (hl : laidOutB P = true) {W W' : World} (hb : Below W.heap.size W W') : ∀ (ts : List Nat) (vs : List Value) (ds : List (DataW H)) (ps : List MemPlace), DataW.TrodAll enc P W 0 (fun _ => true) true ts vs ds ps →
    (∀ t ∈ ts, P.readableRec t = true ∧ t < P.types.size) → (∀ x ∈ ps, x.block < W.heap.size) → ∀ sp : Nat → Bool, (∀ x ∈ ps, sp x.block = true) → DataW.TrodAll enc P W' 0 sp true ts vs ds ps
  | [], vs, ds, ps, h, _, _, sp, _ => by
    obtain ⟨rfl, rfl, rfl⟩ := trodAll_nil h
    rfl
  | t :: ts, vs, ds, ps, h, hr, hlt, sp, hsp => by
    obtain ⟨v, vs', d, ds', p, q, rfl, rfl, rfl, h1, h2⟩ := trodAll_cons h
    exact ⟨p, q, WideElems.Trod_stays hl (hr t (by simp)).1 (hr t (by simp)).2 h1 (fun x hx => hb.same (hlt x (by simp [hx]))) (fun x hx => hsp x (by simp [hx])),
      trodAll_stays hl hb ts vs' ds' q h2 (fun t ht => hr t (by simp [ht])) (fun x hx => hlt x (by simp [hx])) sp (fun x hx => hsp x (by simp [hx])), rfl⟩
theorem post_below {f : Func} {s : ChangeSpec} {apart fresh handsOn again : Bool} {W W' : World} {args : Array Value} {v : Value} {ds gs : List (DataW H)} {before pa pv : List MemPlace}
    (hW : DataW.Whole enc P f.params.toList s.vars apart W args.toList ds gs before)
    (hres : ∀ (b : Nat) (sp : Nat → Bool) (hd : Bool), DataW.TrodAll enc P W' b sp hd f.resultTypes.toList (v.resultList f.resultTypes.size) (s.fn H (ds ++ gs)).results [])
    (hargs : ∀ sp : Nat → Bool, (∀ p ∈ before, sp p.block = true) → DataW.TrodAll enc P W' 0 sp true f.params.toList args.toList (s.fn H (ds ++ gs)).args pa)
    (hvars : ∀ sp : Nat → Bool, (∀ p ∈ before, sp p.block = true) → DataW.TrodVars enc P W' sp s.vars (s.fn H (ds ++ gs)).vars pv)
    (hps : before = pa ++ pv) (hb : Below W.heap.size W W')
    (hok : ∀ (j : Nat) (t : TypeId) (r : Value), f.resultTypes[j]? = some t → (v.resultList f.resultTypes.size)[j]? = some r → Value.okWide P W' .any 0 t r) :
    s.post enc P f apart fresh handsOn again W args v W' := by
  have hlt : ∀ p ∈ before, p.block < W.heap.size := fun p hp => hW.lt p hp
  have hold : ∀ p ∈ before, (fun b => decide (b < W.heap.size)) p.block = true := fun p hp => by simpa using hlt p hp
  refine ⟨ds, gs, before, [], pa, pv, hW, hres _ _ _, hargs _ hold, hvars _ hold, World.keptBut_mono (fun p hp => ⟨hp, ?_⟩) (hb.frame (· ∈ before)), fun _ => ?_⟩
  · rw [hps, List.mem_append] at hp
    exact Or.inr hp
  · obtain ⟨_, _, _, _, _, hz, hn⟩ := hW
    refine ⟨hok, _, _, ([] ++ pa) ++ pv, ⟨[] ++ pa, pv, trodAll_append (hargs _ (fun _ _ => rfl)) (hres _ _ _), hvars _ (fun _ _ => rfl), rfl, ?_, ?_⟩, ?_⟩
    · intro b off hp
      have hin : MemPlace.cell b off ∈ before := by rw [hps]; simpa using hp
      rw [hb.frozen (hlt _ hin)]
      exact hz b off hin
    · intro ha
      have := hn ha
      rw [hps] at this
      simpa using this
    · intro p hp _
      rw [hps]
      simpa using hp
theorem law_calls (T : TyOk P ty) {I : World → Prop} {f : Nat} {fn : Func} {c : Con} (hc : Contract P ty I f fn c) (hp : c.plain = true) (hl : laidOutB P = true)
    (hts : fn.params.toList.all (fun t => K.dat ty 20 (ty t) && P.readableRec t && decide (t < P.types.size)) = true) {tb : Nat} (hr : fn.resultTypes = #[tb]) (hb : ty tb = .bool)
    (hrun : ∀ ds, D.hass ty ds (fn.params.toList.map ty) → D.wfs ds → c.run ds = some (.bool true)) {s : ChangeSpec} (hv : s.vars = [])
    (hs : ∀ ds : List (DataW H), ds.length = fn.params.toList.length → (s.fn H (ds ++ [])).results = [.lit (.bool true)] ∧ (s.fn H (ds ++ [])).args = ds ∧ (s.fn H (ds ++ [])).vars = [])
    {W : World} {base : Nat} {args : Array Value} {ds gs : List (DataW H)} {before : List MemPlace} {apart fresh handsOn again : Bool} (hI : I W)
    (hval : ∀ (j : Nat) t v, fn.params[j]? = some t → args[j]? = some v → Value.okWide P W .any base t v)
    (hW : DataW.Whole enc P fn.params.toList s.vars apart W args.toList ds gs before) :
    Calls P f args W fun e W' => ∃ v, e = .returned v ∧ s.post enc P fn apart fresh handsOn again W args v W' := by
  have hW' := hW
  obtain ⟨p, q, hA, hV, rfl, hfz, hnd⟩ := hW
  rw [hv] at hV
  obtain ⟨rfl, rfl⟩ := trodVars_none hV
  simp only [List.all_eq_true, Bool.and_eq_true, decide_eq_true_eq] at hts
  obtain ⟨xs, h1, h2⟩ := trodAll_each (W := W) (r := .any) (base := base) T _ _ _ _ hA (fun t ht => (hts t ht).1.1) (fun j t v hj hv => hval j t v (by simpa using hj) (by simpa using hv))
  have hlen : ds.length = fn.params.toList.length := by
    clear hW' hs hval h1 hrun hts hr hc hfz hnd
    generalize fn.params.toList = ts at hA
    generalize args.toList = vs at hA
    induction ts generalizing vs ds p with
    | nil => obtain ⟨_, rfl, _⟩ := trodAll_nil hA; rfl
    | cons t ts ih =>
      obtain ⟨v, vs', d, ds', p, q, rfl, rfl, rfl, _, h2⟩ := trodAll_cons hA
      simp [ih _ _ h2]
  obtain ⟨s1, s2, s3⟩ := hs ds hlen
  have hrun' := hrun xs (each_hass h1) h2
  have hcall := hc [] W xs args.toList (.bool true) hI (by simp) h1 hrun'
  refine hcall.mono ?_
  rintro e W' ⟨v, rfl, hbl, hres⟩
  rw [if_pos hp] at hres
  have hres := hres (memOf W' [])
  simp only [ResRep, hr, hb, Rep] at hres
  obtain ⟨_, rfl⟩ := hres
  obtain ⟨i, hi⟩ := T tb (by rw [hb]; simp)
  have hdesc := hi.desc
  rw [hb] at hdesc
  simp only [descOk] at hdesc
  refine ⟨_, rfl, post_below (pa := p) (pv := []) hW' ?_ ?_ ?_ rfl hbl ?_⟩
  · intro b sp hd
    rw [s1, hr]
    exact trodAll_mk1 (shut_bool hdesc _)
  · intro sp hsp
    rw [s2]
    refine trodAll_stays hl hbl _ _ _ _ hA (fun t ht => ⟨(hts t ht).1.2, (hts t ht).2⟩) (fun x hx => hW'.lt x (by simp [hx])) sp (fun x hx => hsp x (by simp [hx]))
  · intro sp _
    rw [hv, s3]
    rfl
  · intro j t r hj hr'
    rw [hr] at hj hr'
    cases j with
    | zero =>
      simp at hj
      subst hj
      simp [Value.resultList] at hr'
      subst hr'
      exact okWide_bool_mk hdesc _
    | succ j => simp at hj
end
end Go.AM
