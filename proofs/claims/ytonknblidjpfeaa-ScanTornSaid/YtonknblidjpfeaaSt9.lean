/- Part 9 of the proof: the abstract machine, what the functions compute, and plain laws over that. -/
import Derived.Test.YtonknblidjpfeaaSt8
set_option linter.all false
set_option linter.unusedSimpArgs false
set_option linter.unusedVariables false
set_option linter.unusedSectionVars false
namespace Go.AM.SP
open Go Go.AM Go.Proofs Go.RowKit
def FUEL : Nat := 1048576
namespace F77
def cons : List (Nat × Con) := []
def exts : List (Nat × Ext) := []
def h : List (Nat × Nat × Hint) := []
noncomputable def e (M : Nat) : Env := env cons exts h M
def s (M : Nat) (p0 : Int) : Option D :=
  (some (db (neI p0 p0)))
theorem run (M : Nat) (p0 : Int) : callS (e M) (tblOf []) 12 (.fn 77) [.d (.int .i64) (di p0)] [] (fun v H => finish ty [4] v H) = s M p0 := by kernel_rfl
def c : Con := { run := fun ds => match ds with | [p0] => s FUEL p0.i | _ => none, plain := true }
theorem ok : ConOk (77, c) := mkC Try.f77 [(.int .i64)] [4] (by kernel_rfl) (by kernel_rfl) (by kernel_rfl) (by kernel_rfl) allNil allNil AllOk.nil fun a => run FUEL a.1
end F77
namespace F46
def cons : List (Nat × Con) := [(77, F77.c)]
def exts : List (Nat × Ext) := []
def h : List (Nat × Nat × Hint) := []
noncomputable def e (M : Nat) : Env := env cons exts h M
def s (M : Nat) (p0 : Int) (p1 : Int) : Option D :=
  (bd (F77.s FUEL p0) fun r1 => (bd (F77.s FUEL p1) fun r2 => (cond r1.b (cond r2.b (some (di 0)) (some (di (-1)))) (cond r2.b (some (di 1)) (cond (ltI p0 p1) (some (di (-1))) (cond (gtI p0 p1) (some (di 1)) (some (di 0))))))))
theorem run (M : Nat) (p0 : Int) (p1 : Int) : callS (e M) (tblOf []) 12 (.fn 46) [.d (.int .i64) (di p0), .d (.int .i64) (di p1)] [] (fun v H => finish ty [3] v H) = s M p0 p1 := by kernel_rfl
def c : Con := { run := fun ds => match ds with | [p0, p1] => s FUEL p0.i p1.i | _ => none, plain := true }
theorem ok : ConOk (46, c) := mkC Try.f46 [(.int .i64), (.int .i64)] [3] (by kernel_rfl) (by kernel_rfl) (by kernel_rfl) (by kernel_rfl) (allCons F77.ok allNil) allNil AllOk.nil fun a => run FUEL a.1 a.2.1
end F46
namespace F49
def cons : List (Nat × Con) := []
def exts : List (Nat × Ext) := []
def h : List (Nat × Nat × Hint) := []
noncomputable def e (M : Nat) : Env := env cons exts h M
def s (M : Nat) (p0 : D) : Option D :=
  (cond (!p0.nn) (some (.slice false [])) (cond (mx p0.elems.length) (cond ((decide (p0.elems.length = p0.elems.length)) && true) (some (.slice true p0.elems)) none) none))
theorem run (M : Nat) (p0 : D) : callS (e M) (tblOf []) 12 (.fn 49) [.d (.slice 58) p0] [] (fun v H => finishFresh ty [23] v H) = s M p0 := by kernel_rfl
def c : Con := { run := fun ds => match ds with | [p0] => s FUEL p0 | _ => none, fresh := true }
theorem ok : ConOk (49, c) := mkF Try.f49 [(.slice 58)] [23] (by kernel_rfl) (by kernel_rfl) (by kernel_rfl) allNil allNil AllOk.nil fun a => run FUEL a.1
end F49
namespace F34
def cons : List (Nat × Con) := []
def exts : List (Nat × Ext) := []
def h : List (Nat × Nat × Hint) := []
noncomputable def e (M : Nat) : Env := env cons exts h M
def s (M : Nat) (p0 : D) : Option D :=
  (some (p0.at 0))
theorem run (M : Nat) (p0 : D) : callS (e M) (tblOf []) 12 (.fn 34) [.d (.struct [3, 3, 3, 3]) p0] [] (fun v H => finish ty [3] v H) = s M p0 := by kernel_rfl
def c : Con := { run := fun ds => match ds with | [p0] => s FUEL p0 | _ => none, plain := true }
theorem ok : ConOk (34, c) := mkC Try.f34 [(.struct [3, 3, 3, 3])] [3] (by kernel_rfl) (by kernel_rfl) (by kernel_rfl) (by kernel_rfl) allNil allNil AllOk.nil fun a => run FUEL a.1
end F34
namespace F21
def k0_ : K := (.struct [23, 24])
def k1_ : K := (.struct [3, 3, 3, 3])
def cons : List (Nat × Con) := [(34, F34.c), (46, F46.c), (49, F49.c)]
def exts : List (Nat × Ext) := []
def h : List (Nat × Nat × Hint) := [(36, 2, { live := [0, 1, 7, 8], out := some [4] }), (48, 5, { live := [0, 1, 5, 6], out := some [0, 5] })]
def q0_ : PO := (.var k0_ (.d k0_ (.agg [.slice, .slice])))
def q1_ : PO := (.var k1_ (.d k1_ .x))
def q2_ : PO := (.var k0_ (.d k0_ .x))
noncomputable def e (M : Nat) : Env := env cons exts h M
structure S36_2 where
  (d2 : D) (i3 i4 : Int) (d5 d6 : D) (b7 : Bool) (l8 : List D) (b9 : Bool) (l10 : List D) (d11 d12 : D)
inductive X36_2 where
  | e0 (d2 : D) (i4 : Int) (d5 d6 : D) (b7 : Bool) (l8 : List D) (b9 : Bool) (l10 : List D) (d11 d12 : D)
  | e1 (d5 d6 : D) (b7 : Bool) (l8 : List D) (b9 : Bool) (l10 : List D) (d11 d12 : D)
def st36_2 (M : Nat) : S36_2 → (S36_2 → Option D) → (X36_2 → Option D) → Option D
  | ⟨d2, i3, i4, d5, d6, b7, l8, b9, l10, d11, d12⟩, rec, K => (cond (ltI i4 i3) (cond (inb i4 d2.elems.length) (bd (F34.s FUEL (ix d2.elems i4.toNat)) fun r13 => (bd (F46.s FUEL r13.i d12.i) fun r14 => (cond (geI r14.i 0) (K (.e0 d2 i4 d5 d6 b7 l8 b9 l10 d11 d12)) (rec ⟨d2, i3, (ad .i64 i4 1), d5, d6, b7, l8, b9, l10, d11, d12⟩)))) none) (K (.e1 d5 d6 b7 l8 b9 l10 d11 d12)))
def ex36_2 (k : Kont) : X36_2 → Option D
  | .e0 d2 i4 d5 d6 b7 l8 b9 l10 d11 d12 => k .ret ((us 4 ((vi i4) :: (us 14 [])))) [(.var k0_ (vk k0_ d5)), (.var k1_ (vk k1_ d6)), (.var k0_ (vk k0_ (da [(dl b7 l8), (dl b9 l10)]))), (.var k1_ (vk k1_ d11)), (.var .func (vk .func (D.fn 34))), (.var (.int .i64) (vk (.int .i64) d12)), (.var k1_ (vk k1_ (ix d2.elems i4.toNat)))]
  | .e1 d5 d6 b7 l8 b9 l10 d11 d12 => k (.exit 0) ((us 19 [])) [(.var k0_ (vk k0_ d5)), (.var k1_ (vk k1_ d6)), (.var k0_ (vk k0_ (da [(dl b7 l8), (dl b9 l10)]))), (.var k1_ (vk k1_ d11)), (.var .func (vk .func (D.fn 34))), (.var (.int .i64) (vk (.int .i64) d12))]
def lv36_2 : S36_2 → List Leaf
  | ⟨d2, i3, i4, d5, d6, b7, l8, b9, l10, d11, d12⟩ => [.d d2, .i i3, .i i4, .d d5, .d d6, .b b7, .l l8, .b b9, .l l10, .d d11, .d d12]
def of36_2 : List Leaf → Option S36_2
  | [.d d2, .i i3, .i i4, .d d5, .d d6, .b b7, .l l8, .b b9, .l l10, .d d11, .d d12] => some ⟨d2, i3, i4, d5, d6, b7, l8, b9, l10, d11, d12⟩
  | _ => none
def ps36_2 : List PV := ((.d (.slice 58) .x) :: (.func 45 [] [(.ptr 4 [] .func), (.ptr 5 [] (.int .i64))]) :: (up 5 ((.d (.int .i64) (.int .i64)) :: (.d (.int .i64) (.int .i64)) :: (up 10 []))))
def qs36_2 : List PO := [q2_, q1_, q0_, q1_, (.var .func (.d .func (.fn 34))), (.var (.int .i64) (.d (.int .i64) .x))]
noncomputable def t1 (M : Nat) : List Ent := ⟨36, 9, 6, 2, sumS [0, 1, 7, 8] ps36_2 qs36_2 [] of36_2 (st36_2 M) ex36_2 M⟩ :: []
theorem t1_ok (M : Nat) : AllOk (e M) (tblOf (t1 M)) := AllOk.addS (n0 := 6) (lv := lv36_2) AllOk.nil (by kernel_rfl) rfl (by intro ls s h; unfold of36_2 at h; (repeat' split at h) <;> simp at h; subst h; rfl) (by intro s; kernel_rfl) (by intro s; kernel_rfl) (by intro s nx k; kernel_rfl)
structure S36_2_8_8 where
  (n16 n17 : Nat) (i18 i19 : Int) (d20 d21 : D) (b22 : Bool) (l23 : List D) (b24 : Bool) (l25 : List D) (d26 d27 d28 : D) (b29 : Bool) (l30 : List D)
inductive X36_2_8_8 where
  | e0 (n16 : Nat) (i19 : Int) (d20 d21 : D) (b22 : Bool) (l23 : List D) (b24 : Bool) (l25 : List D) (d26 d27 d28 : D) (b29 : Bool) (l30 : List D)
  | e1 (d20 d21 : D) (b22 : Bool) (l23 : List D) (b24 : Bool) (l25 : List D) (d26 d27 d28 : D) (b29 : Bool) (l30 : List D)
def st36_2_8_8 (M : Nat) : S36_2_8_8 → (S36_2_8_8 → Option D) → (X36_2_8_8 → Option D) → Option D
  | ⟨n16, n17, i18, i19, d20, d21, b22, l23, b24, l25, d26, d27, d28, b29, l30⟩, rec, K => (cond (ltI i19 i18) (cond (inb i19 n17) (bd (F34.s FUEL (ix l30 (n16 + i19.toNat))) fun r31 => (cond (eqI r31.i d27.i) (K (.e0 n16 i19 d20 d21 b22 l23 b24 l25 d26 d27 d28 b29 l30)) (rec ⟨n16, n17, i18, (ad .i64 i19 1), d20, d21, b22, l23, b24, l25, d26, d27, d28, b29, l30⟩))) none) (K (.e1 d20 d21 b22 l23 b24 l25 d26 d27 d28 b29 l30)))
def ex36_2_8_8 (k : Kont) : X36_2_8_8 → Option D
  | .e0 n16 i19 d20 d21 b22 l23 b24 l25 d26 d27 d28 b29 l30 => k .ret ((us 4 ((vi i19) :: (us 14 [])))) [(.var k0_ (vk k0_ d20)), (.var k1_ (vk k1_ d21)), (.var k0_ (vk k0_ (da [(dl b22 l23), (dl b24 l25)]))), (.var k1_ (vk k1_ d26)), (.var .func (vk .func (D.fn 34))), (.var (.int .i64) (vk (.int .i64) d27)), (.var k1_ (vk k1_ d28)), (.row 58 true b29 l30), (.var k1_ (vk k1_ (ix l30 (n16 + i19.toNat))))]
  | .e1 d20 d21 b22 l23 b24 l25 d26 d27 d28 b29 l30 => k (.exit 0) ((us 19 [])) [(.var k0_ (vk k0_ d20)), (.var k1_ (vk k1_ d21)), (.var k0_ (vk k0_ (da [(dl b22 l23), (dl b24 l25)]))), (.var k1_ (vk k1_ d26)), (.var .func (vk .func (D.fn 34))), (.var (.int .i64) (vk (.int .i64) d27)), (.var k1_ (vk k1_ d28)), (.row 58 true b29 l30)]
def of36_2_8_8_0 : List Leaf → Option S36_2_8_8
  | [.n n16, .n n17, .i i18, .i i19, .d d20, .d d21, .b b22, .l l23, .b b24, .l l25, .d d26, .d d27, .d d28, .b b29, .l l30] => some ⟨n16, n17, i18, i19, d20, d21, b22, l23, b24, l25, d26, d27, d28, b29, l30⟩
  | _ => none
def ps36_2_8_8_0 : List PV := ((.sref 7) :: (.func 47 [] [(.ptr 4 [] .func), (.ptr 5 [] (.int .i64))]) :: (up 5 ((.d (.int .i64) (.int .i64)) :: (.d (.int .i64) (.int .i64)) :: (up 10 []))))
def qs36_2_8_8_0 : List PO := [q2_, q1_, q0_, q1_, (.var .func (.d .func (.fn 34))), (.var (.int .i64) (.d (.int .i64) .x)), q1_, (.row 58 true)]
def vv36_2_8_8 : S36_2_8_8 → List V × List AObj
  | ⟨n16, n17, i18, i19, d20, d21, b22, l23, b24, l25, d26, d27, d28, b29, l30⟩ => ((fillVs ps36_2_8_8_0 [.n n16, .n n17, .i i18, .i i19, .d d20, .d d21, .b b22, .l l23, .b b24, .l l25, .d d26, .d d27, .d d28, .b b29, .l l30]).1, (fillOs qs36_2_8_8_0 (fillVs ps36_2_8_8_0 [.n n16, .n n17, .i i18, .i i19, .d d20, .d d21, .b b22, .l l23, .b b24, .l l25, .d d26, .d d27, .d d28, .b b29, .l l30]).2).1)
noncomputable def su36_2_8_8 (M : Nat) : Sum := sumJ [0, 1, 7, 8] [⟨ps36_2_8_8_0, qs36_2_8_8_0, of36_2_8_8_0⟩] [] (st36_2_8_8 M) ex36_2_8_8 M noSum
noncomputable def t2 (M : Nat) : List Ent := ⟨36, 8, 8, 2, su36_2_8_8 M⟩ :: t1 M
theorem t2_ok (M : Nat) : AllOk (e M) (tblOf (t2 M)) := AllOk.addJ (n0 := 8) (t1_ok M) (fun s => (vv36_2_8_8 s).1) (fun s => (vv36_2_8_8 s).2) (by kernel_rfl) rfl (.inl rfl) ⟨by intro ls s h; replace h : of36_2_8_8_0 ls = some s := h; unfold of36_2_8_8_0 at h; (repeat' split at h) <;> simp at h; subst h; exact ⟨by kernel_rfl, by kernel_rfl⟩, trivial⟩ (by intro s; kernel_rfl) (by intro s; kernel_rfl) (by intro s nx k; kernel_rfl)
structure S36_2_8_10 where
  (n33 n34 : Nat) (i35 i36 : Int) (d37 d38 : D) (b39 : Bool) (l40 : List D) (b41 : Bool) (l42 : List D) (d43 d44 d45 : D) (b46 : Bool) (l47 : List D) (d48 : D) (b49 : Bool) (l50 : List D)
inductive X36_2_8_10 where
  | e0 (n33 : Nat) (i36 : Int) (d37 d38 : D) (b39 : Bool) (l40 : List D) (b41 : Bool) (l42 : List D) (d43 d44 d45 : D) (b46 : Bool) (l47 : List D) (d48 : D) (b49 : Bool) (l50 : List D)
  | e1 (d37 d38 : D) (b39 : Bool) (l40 : List D) (b41 : Bool) (l42 : List D) (d43 d44 d45 : D) (b46 : Bool) (l47 : List D) (d48 : D) (b49 : Bool) (l50 : List D)
def st36_2_8_10 (M : Nat) : S36_2_8_10 → (S36_2_8_10 → Option D) → (X36_2_8_10 → Option D) → Option D
  | ⟨n33, n34, i35, i36, d37, d38, b39, l40, b41, l42, d43, d44, d45, b46, l47, d48, b49, l50⟩, rec, K => (cond (ltI i36 i35) (cond (inb i36 n34) (bd (F34.s FUEL (ix l50 (n33 + i36.toNat))) fun r51 => (cond (eqI r51.i d44.i) (K (.e0 n33 i36 d37 d38 b39 l40 b41 l42 d43 d44 d45 b46 l47 d48 b49 l50)) (rec ⟨n33, n34, i35, (ad .i64 i36 1), d37, d38, b39, l40, b41, l42, d43, d44, d45, b46, l47, d48, b49, l50⟩))) none) (K (.e1 d37 d38 b39 l40 b41 l42 d43 d44 d45 b46 l47 d48 b49 l50)))
def ex36_2_8_10 (k : Kont) : X36_2_8_10 → Option D
  | .e0 n33 i36 d37 d38 b39 l40 b41 l42 d43 d44 d45 b46 l47 d48 b49 l50 => k .ret ((us 4 ((vi i36) :: (us 14 [])))) [(.var k0_ (vk k0_ d37)), (.var k1_ (vk k1_ d38)), (.var k0_ (vk k0_ (da [(dl b39 l40), (dl b41 l42)]))), (.var k1_ (vk k1_ d43)), (.var .func (vk .func (D.fn 34))), (.var (.int .i64) (vk (.int .i64) d44)), (.var k1_ (vk k1_ d45)), (.row 58 true b46 l47), (.var k1_ (vk k1_ d48)), (.row 58 true b49 l50), (.var k1_ (vk k1_ (ix l50 (n33 + i36.toNat))))]
  | .e1 d37 d38 b39 l40 b41 l42 d43 d44 d45 b46 l47 d48 b49 l50 => k (.exit 0) ((us 19 [])) [(.var k0_ (vk k0_ d37)), (.var k1_ (vk k1_ d38)), (.var k0_ (vk k0_ (da [(dl b39 l40), (dl b41 l42)]))), (.var k1_ (vk k1_ d43)), (.var .func (vk .func (D.fn 34))), (.var (.int .i64) (vk (.int .i64) d44)), (.var k1_ (vk k1_ d45)), (.row 58 true b46 l47), (.var k1_ (vk k1_ d48)), (.row 58 true b49 l50)]
def lv36_2_8_10 : S36_2_8_10 → List Leaf
  | ⟨n33, n34, i35, i36, d37, d38, b39, l40, b41, l42, d43, d44, d45, b46, l47, d48, b49, l50⟩ => [.n n33, .n n34, .i i35, .i i36, .d d37, .d d38, .b b39, .l l40, .b b41, .l l42, .d d43, .d d44, .d d45, .b b46, .l l47, .d d48, .b b49, .l l50]
def of36_2_8_10 : List Leaf → Option S36_2_8_10
  | [.n n33, .n n34, .i i35, .i i36, .d d37, .d d38, .b b39, .l l40, .b b41, .l l42, .d d43, .d d44, .d d45, .b b46, .l l47, .d d48, .b b49, .l l50] => some ⟨n33, n34, i35, i36, d37, d38, b39, l40, b41, l42, d43, d44, d45, b46, l47, d48, b49, l50⟩
  | _ => none
def ps36_2_8_10 : List PV := ((.sref 9) :: (.func 47 [] [(.ptr 4 [] .func), (.ptr 5 [] (.int .i64))]) :: (up 5 ((.d (.int .i64) (.int .i64)) :: (.d (.int .i64) (.int .i64)) :: (up 10 []))))
def qs36_2_8_10 : List PO := [q2_, q1_, q0_, q1_, (.var .func (.d .func (.fn 34))), (.var (.int .i64) (.d (.int .i64) .x)), q1_, (.row 58 true), q1_, (.row 58 true)]
noncomputable def t3 (M : Nat) : List Ent := ⟨36, 8, 10, 2, sumS [0, 1, 7, 8] ps36_2_8_10 qs36_2_8_10 [] of36_2_8_10 (st36_2_8_10 M) ex36_2_8_10 M⟩ :: t2 M
theorem t3_ok (M : Nat) : AllOk (e M) (tblOf (t3 M)) := AllOk.addS (n0 := 10) (lv := lv36_2_8_10) (t2_ok M) (by kernel_rfl) rfl (by intro ls s h; unfold of36_2_8_10 at h; (repeat' split at h) <;> simp at h; subst h; rfl) (by intro s; kernel_rfl) (by intro s; kernel_rfl) (by intro s nx k; kernel_rfl)
structure S48_5 where
  (n52 n53 : Nat) (i54 i55 : Int) (d56 d57 : D) (b58 : Bool) (l59 : List D) (b60 : Bool) (l61 : List D) (d62 d63 d64 : D) (b65 : Bool) (l66 : List D) (d67 : D) (b68 : Bool) (l69 : List D) (d70 : D)
inductive X48_5 where
  | e0 (n52 n53 : Nat) (i54 : Int) (d56 d57 : D) (b58 : Bool) (l59 : List D) (b60 : Bool) (l61 : List D) (d62 d63 d64 : D) (b65 : Bool) (l66 : List D) (d67 : D) (b68 : Bool) (l69 : List D) (d70 : D)
def st48_5 (M : Nat) : S48_5 → (S48_5 → Option D) → (X48_5 → Option D) → Option D
  | ⟨n52, n53, i54, i55, d56, d57, b58, l59, b60, l61, d62, d63, d64, b65, l66, d67, b68, l69, d70⟩, rec, K => (cond (ltI i55 (nI n53)) (cond (inb i55 n53) (bd (F34.s FUEL (ix l69 (n52 + i55.toNat))) fun r71 => (cond (!(eqI r71.i d63.i)) (cond (inb i54 n53) (rec ⟨n52, n53, (ad .i64 i54 1), (ad .i64 i55 1), d56, d57, b58, l59, b60, l61, d62, d63, d64, b65, l66, d67, b68, (l69.set (n52 + i54.toNat) (ix l69 (n52 + i55.toNat))), d70⟩) none) (rec ⟨n52, n53, i54, (ad .i64 i55 1), d56, d57, b58, l59, b60, l61, d62, d63, d64, b65, l66, d67, b68, l69, d70⟩))) none) (K (.e0 n52 n53 i54 d56 d57 b58 l59 b60 l61 d62 d63 d64 b65 l66 d67 b68 l69 d70)))
def ex48_5 (k : Kont) : X48_5 → Option D
  | .e0 n52 n53 i54 d56 d57 b58 l59 b60 l61 d62 d63 d64 b65 l66 d67 b68 l69 d70 => k (.exit 0) ((.sref 9 n52 n53) :: (us 4 ((vi i54) :: (us 36 [])))) [(.var k0_ (vk k0_ d56)), (.var k1_ (vk k1_ d57)), (.var k0_ (vk k0_ (da [(dl b58 l59), (dl b60 l61)]))), (.var k1_ (vk k1_ d62)), (.var .func (vk .func (D.fn 34))), (.var (.int .i64) (vk (.int .i64) d63)), (.var k1_ (vk k1_ d64)), (.row 58 true b65 l66), (.var k1_ (vk k1_ d67)), (.row 58 true b68 l69), (.var k1_ (vk k1_ d70))]
def lv48_5 : S48_5 → List Leaf
  | ⟨n52, n53, i54, i55, d56, d57, b58, l59, b60, l61, d62, d63, d64, b65, l66, d67, b68, l69, d70⟩ => [.n n52, .n n53, .i i54, .i i55, .d d56, .d d57, .b b58, .l l59, .b b60, .l l61, .d d62, .d d63, .d d64, .b b65, .l l66, .d d67, .b b68, .l l69, .d d70]
def of48_5 : List Leaf → Option S48_5
  | [.n n52, .n n53, .i i54, .i i55, .d d56, .d d57, .b b58, .l l59, .b b60, .l l61, .d d62, .d d63, .d d64, .b b65, .l l66, .d d67, .b b68, .l l69, .d d70] => some ⟨n52, n53, i54, i55, d56, d57, b58, l59, b60, l61, d62, d63, d64, b65, l66, d67, b68, l69, d70⟩
  | _ => none
def ps48_5 : List PV := ((.sref 9) :: (.func 47 [] [(.ptr 4 [] .func), (.ptr 5 [] (.int .i64))]) :: (up 3 ((.d (.int .i64) (.int .i64)) :: (.d (.int .i64) (.int .i64)) :: (up 35 []))))
def qs48_5 : List PO := [q2_, q1_, q0_, q1_, (.var .func (.d .func (.fn 34))), (.var (.int .i64) (.d (.int .i64) .x)), q1_, (.row 58 true), q1_, (.row 58 true), q1_]
noncomputable def t4 (M : Nat) : List Ent := ⟨48, 9, 10, 5, sumS [0, 1, 5, 6] ps48_5 qs48_5 [] of48_5 (st48_5 M) ex48_5 M⟩ :: t3 M
theorem t4_ok (M : Nat) : AllOk (e M) (tblOf (t4 M)) := AllOk.addS (n0 := 11) (lv := lv48_5) (t3_ok M) (by kernel_rfl) rfl (by intro ls s h; unfold of48_5 at h; (repeat' split at h) <;> simp at h; subst h; rfl) (by intro s; kernel_rfl) (by intro s; kernel_rfl) (by intro s nx k; kernel_rfl)
structure S48_5_9_8 where
  (n72 n73 : Nat) (i74 i75 : Int) (d76 d77 : D) (b78 : Bool) (l79 : List D) (b80 : Bool) (l81 : List D) (d82 d83 d84 : D) (b85 : Bool) (l86 : List D) (d87 : D)
inductive X48_5_9_8 where
  | e0 (n72 n73 : Nat) (i74 : Int) (d76 d77 : D) (b78 : Bool) (l79 : List D) (b80 : Bool) (l81 : List D) (d82 d83 d84 : D) (b85 : Bool) (l86 : List D) (d87 : D)
def st48_5_9_8 (M : Nat) : S48_5_9_8 → (S48_5_9_8 → Option D) → (X48_5_9_8 → Option D) → Option D
  | ⟨n72, n73, i74, i75, d76, d77, b78, l79, b80, l81, d82, d83, d84, b85, l86, d87⟩, rec, K => (cond (ltI i75 (nI n73)) (cond (inb i75 n73) (bd (F34.s FUEL (ix l86 (n72 + i75.toNat))) fun r88 => (cond (!(eqI r88.i d83.i)) (cond (inb i74 n73) (rec ⟨n72, n73, (ad .i64 i74 1), (ad .i64 i75 1), d76, d77, b78, l79, b80, l81, d82, d83, d84, b85, (l86.set (n72 + i74.toNat) (ix l86 (n72 + i75.toNat))), d87⟩) none) (rec ⟨n72, n73, i74, (ad .i64 i75 1), d76, d77, b78, l79, b80, l81, d82, d83, d84, b85, l86, d87⟩))) none) (K (.e0 n72 n73 i74 d76 d77 b78 l79 b80 l81 d82 d83 d84 b85 l86 d87)))
def ex48_5_9_8 (k : Kont) : X48_5_9_8 → Option D
  | .e0 n72 n73 i74 d76 d77 b78 l79 b80 l81 d82 d83 d84 b85 l86 d87 => k (.exit 0) ((.sref 7 n72 n73) :: (us 4 ((vi i74) :: (us 36 [])))) [(.var k0_ (vk k0_ d76)), (.var k1_ (vk k1_ d77)), (.var k0_ (vk k0_ (da [(dl b78 l79), (dl b80 l81)]))), (.var k1_ (vk k1_ d82)), (.var .func (vk .func (D.fn 34))), (.var (.int .i64) (vk (.int .i64) d83)), (.var k1_ (vk k1_ d84)), (.row 58 true b85 l86), (.var k1_ (vk k1_ d87))]
def of48_5_9_8_0 : List Leaf → Option S48_5_9_8
  | [.n n72, .n n73, .i i74, .i i75, .d d76, .d d77, .b b78, .l l79, .b b80, .l l81, .d d82, .d d83, .d d84, .b b85, .l l86, .d d87] => some ⟨n72, n73, i74, i75, d76, d77, b78, l79, b80, l81, d82, d83, d84, b85, l86, d87⟩
  | _ => none
def ps48_5_9_8_0 : List PV := ((.sref 7) :: (.func 47 [] [(.ptr 4 [] .func), (.ptr 5 [] (.int .i64))]) :: (up 3 ((.d (.int .i64) (.int .i64)) :: (.d (.int .i64) (.int .i64)) :: (up 35 []))))
def qs48_5_9_8_0 : List PO := [q2_, q1_, q0_, q1_, (.var .func (.d .func (.fn 34))), (.var (.int .i64) (.d (.int .i64) .x)), q1_, (.row 58 true), q1_]
def vv48_5_9_8 : S48_5_9_8 → List V × List AObj
  | ⟨n72, n73, i74, i75, d76, d77, b78, l79, b80, l81, d82, d83, d84, b85, l86, d87⟩ => ((fillVs ps48_5_9_8_0 [.n n72, .n n73, .i i74, .i i75, .d d76, .d d77, .b b78, .l l79, .b b80, .l l81, .d d82, .d d83, .d d84, .b b85, .l l86, .d d87]).1, (fillOs qs48_5_9_8_0 (fillVs ps48_5_9_8_0 [.n n72, .n n73, .i i74, .i i75, .d d76, .d d77, .b b78, .l l79, .b b80, .l l81, .d d82, .d d83, .d d84, .b b85, .l l86, .d d87]).2).1)
noncomputable def su48_5_9_8 (M : Nat) : Sum := sumJ [0, 1, 5, 6] [⟨ps48_5_9_8_0, qs48_5_9_8_0, of48_5_9_8_0⟩] [] (st48_5_9_8 M) ex48_5_9_8 M noSum
noncomputable def t5 (M : Nat) : List Ent := ⟨48, 9, 8, 5, su48_5_9_8 M⟩ :: t4 M
theorem t5_ok (M : Nat) : AllOk (e M) (tblOf (t5 M)) := AllOk.addJ (n0 := 9) (t4_ok M) (fun s => (vv48_5_9_8 s).1) (fun s => (vv48_5_9_8 s).2) (by kernel_rfl) rfl (.inl rfl) ⟨by intro ls s h; replace h : of48_5_9_8_0 ls = some s := h; unfold of48_5_9_8_0 at h; (repeat' split at h) <;> simp at h; subst h; exact ⟨by kernel_rfl, by kernel_rfl⟩, trivial⟩ (by intro s; kernel_rfl) (by intro s; kernel_rfl) (by intro s nx k; kernel_rfl)
structure S36_2_8_9 where
  (n91 n92 : Nat) (i93 i94 : Int) (d95 d96 : D) (b97 : Bool) (l98 : List D) (b99 : Bool) (l100 : List D) (d101 d102 d103 : D) (b104 : Bool) (l105 : List D) (b106 : Bool) (l107 : List D)
inductive X36_2_8_9 where
  | e0 (n91 : Nat) (i94 : Int) (d95 d96 : D) (b97 : Bool) (l98 : List D) (b99 : Bool) (l100 : List D) (d101 d102 d103 : D) (b104 : Bool) (l105 : List D) (b106 : Bool) (l107 : List D)
  | e1 (d95 d96 : D) (b97 : Bool) (l98 : List D) (b99 : Bool) (l100 : List D) (d101 d102 d103 : D) (b104 : Bool) (l105 : List D) (b106 : Bool) (l107 : List D)
def st36_2_8_9 (M : Nat) : S36_2_8_9 → (S36_2_8_9 → Option D) → (X36_2_8_9 → Option D) → Option D
  | ⟨n91, n92, i93, i94, d95, d96, b97, l98, b99, l100, d101, d102, d103, b104, l105, b106, l107⟩, rec, K => (cond (ltI i94 i93) (cond (inb i94 n92) (bd (F34.s FUEL (ix l107 (n91 + i94.toNat))) fun r108 => (cond (eqI r108.i d102.i) (K (.e0 n91 i94 d95 d96 b97 l98 b99 l100 d101 d102 d103 b104 l105 b106 l107)) (rec ⟨n91, n92, i93, (ad .i64 i94 1), d95, d96, b97, l98, b99, l100, d101, d102, d103, b104, l105, b106, l107⟩))) none) (K (.e1 d95 d96 b97 l98 b99 l100 d101 d102 d103 b104 l105 b106 l107)))
def ex36_2_8_9 (k : Kont) : X36_2_8_9 → Option D
  | .e0 n91 i94 d95 d96 b97 l98 b99 l100 d101 d102 d103 b104 l105 b106 l107 => k .ret ((us 4 ((vi i94) :: (us 14 [])))) [(.var k0_ (vk k0_ d95)), (.var k1_ (vk k1_ d96)), (.var k0_ (vk k0_ (da [(dl b97 l98), (dl b99 l100)]))), (.var k1_ (vk k1_ d101)), (.var .func (vk .func (D.fn 34))), (.var (.int .i64) (vk (.int .i64) d102)), (.var k1_ (vk k1_ d103)), (.row 58 true b104 l105), (.row 58 true b106 l107), (.var k1_ (vk k1_ (ix l107 (n91 + i94.toNat))))]
  | .e1 d95 d96 b97 l98 b99 l100 d101 d102 d103 b104 l105 b106 l107 => k (.exit 0) ((us 19 [])) [(.var k0_ (vk k0_ d95)), (.var k1_ (vk k1_ d96)), (.var k0_ (vk k0_ (da [(dl b97 l98), (dl b99 l100)]))), (.var k1_ (vk k1_ d101)), (.var .func (vk .func (D.fn 34))), (.var (.int .i64) (vk (.int .i64) d102)), (.var k1_ (vk k1_ d103)), (.row 58 true b104 l105), (.row 58 true b106 l107)]
def of36_2_8_9_0 : List Leaf → Option S36_2_8_9
  | [.n n91, .n n92, .i i93, .i i94, .d d95, .d d96, .b b97, .l l98, .b b99, .l l100, .d d101, .d d102, .d d103, .b b104, .l l105, .b b106, .l l107] => some ⟨n91, n92, i93, i94, d95, d96, b97, l98, b99, l100, d101, d102, d103, b104, l105, b106, l107⟩
  | _ => none
def ps36_2_8_9_0 : List PV := ((.sref 8) :: (.func 47 [] [(.ptr 4 [] .func), (.ptr 5 [] (.int .i64))]) :: (up 5 ((.d (.int .i64) (.int .i64)) :: (.d (.int .i64) (.int .i64)) :: (up 10 []))))
def qs36_2_8_9_0 : List PO := [q2_, q1_, q0_, q1_, (.var .func (.d .func (.fn 34))), (.var (.int .i64) (.d (.int .i64) .x)), q1_, (.row 58 true), (.row 58 true)]
def vv36_2_8_9 : S36_2_8_9 → List V × List AObj
  | ⟨n91, n92, i93, i94, d95, d96, b97, l98, b99, l100, d101, d102, d103, b104, l105, b106, l107⟩ => ((fillVs ps36_2_8_9_0 [.n n91, .n n92, .i i93, .i i94, .d d95, .d d96, .b b97, .l l98, .b b99, .l l100, .d d101, .d d102, .d d103, .b b104, .l l105, .b b106, .l l107]).1, (fillOs qs36_2_8_9_0 (fillVs ps36_2_8_9_0 [.n n91, .n n92, .i i93, .i i94, .d d95, .d d96, .b b97, .l l98, .b b99, .l l100, .d d101, .d d102, .d d103, .b b104, .l l105, .b b106, .l l107]).2).1)
noncomputable def su36_2_8_9 (M : Nat) : Sum := sumJ [0, 1, 7, 8] [⟨ps36_2_8_9_0, qs36_2_8_9_0, of36_2_8_9_0⟩] [] (st36_2_8_9 M) ex36_2_8_9 M noSum
noncomputable def t6 (M : Nat) : List Ent := ⟨36, 8, 9, 2, su36_2_8_9 M⟩ :: t5 M
theorem t6_ok (M : Nat) : AllOk (e M) (tblOf (t6 M)) := AllOk.addJ (n0 := 9) (t5_ok M) (fun s => (vv36_2_8_9 s).1) (fun s => (vv36_2_8_9 s).2) (by kernel_rfl) rfl (.inl rfl) ⟨by intro ls s h; replace h : of36_2_8_9_0 ls = some s := h; unfold of36_2_8_9_0 at h; (repeat' split at h) <;> simp at h; subst h; exact ⟨by kernel_rfl, by kernel_rfl⟩, trivial⟩ (by intro s; kernel_rfl) (by intro s; kernel_rfl) (by intro s nx k; kernel_rfl)
structure S48_5_9_9 where
  (n109 n110 : Nat) (i111 i112 : Int) (d113 d114 : D) (b115 : Bool) (l116 : List D) (b117 : Bool) (l118 : List D) (d119 d120 d121 : D) (b122 : Bool) (l123 : List D) (b124 : Bool) (l125 : List D) (d126 : D)
inductive X48_5_9_9 where
  | e0 (n109 n110 : Nat) (i111 : Int) (d113 d114 : D) (b115 : Bool) (l116 : List D) (b117 : Bool) (l118 : List D) (d119 d120 d121 : D) (b122 : Bool) (l123 : List D) (b124 : Bool) (l125 : List D) (d126 : D)
def st48_5_9_9 (M : Nat) : S48_5_9_9 → (S48_5_9_9 → Option D) → (X48_5_9_9 → Option D) → Option D
  | ⟨n109, n110, i111, i112, d113, d114, b115, l116, b117, l118, d119, d120, d121, b122, l123, b124, l125, d126⟩, rec, K => (cond (ltI i112 (nI n110)) (cond (inb i112 n110) (bd (F34.s FUEL (ix l125 (n109 + i112.toNat))) fun r127 => (cond (!(eqI r127.i d120.i)) (cond (inb i111 n110) (rec ⟨n109, n110, (ad .i64 i111 1), (ad .i64 i112 1), d113, d114, b115, l116, b117, l118, d119, d120, d121, b122, l123, b124, (l125.set (n109 + i111.toNat) (ix l125 (n109 + i112.toNat))), d126⟩) none) (rec ⟨n109, n110, i111, (ad .i64 i112 1), d113, d114, b115, l116, b117, l118, d119, d120, d121, b122, l123, b124, l125, d126⟩))) none) (K (.e0 n109 n110 i111 d113 d114 b115 l116 b117 l118 d119 d120 d121 b122 l123 b124 l125 d126)))
def ex48_5_9_9 (k : Kont) : X48_5_9_9 → Option D
  | .e0 n109 n110 i111 d113 d114 b115 l116 b117 l118 d119 d120 d121 b122 l123 b124 l125 d126 => k (.exit 0) ((.sref 8 n109 n110) :: (us 4 ((vi i111) :: (us 36 [])))) [(.var k0_ (vk k0_ d113)), (.var k1_ (vk k1_ d114)), (.var k0_ (vk k0_ (da [(dl b115 l116), (dl b117 l118)]))), (.var k1_ (vk k1_ d119)), (.var .func (vk .func (D.fn 34))), (.var (.int .i64) (vk (.int .i64) d120)), (.var k1_ (vk k1_ d121)), (.row 58 true b122 l123), (.row 58 true b124 l125), (.var k1_ (vk k1_ d126))]
def of48_5_9_9_0 : List Leaf → Option S48_5_9_9
  | [.n n109, .n n110, .i i111, .i i112, .d d113, .d d114, .b b115, .l l116, .b b117, .l l118, .d d119, .d d120, .d d121, .b b122, .l l123, .b b124, .l l125, .d d126] => some ⟨n109, n110, i111, i112, d113, d114, b115, l116, b117, l118, d119, d120, d121, b122, l123, b124, l125, d126⟩
  | _ => none
def ps48_5_9_9_0 : List PV := ((.sref 8) :: (.func 47 [] [(.ptr 4 [] .func), (.ptr 5 [] (.int .i64))]) :: (up 3 ((.d (.int .i64) (.int .i64)) :: (.d (.int .i64) (.int .i64)) :: (up 35 []))))
def qs48_5_9_9_0 : List PO := [q2_, q1_, q0_, q1_, (.var .func (.d .func (.fn 34))), (.var (.int .i64) (.d (.int .i64) .x)), q1_, (.row 58 true), (.row 58 true), q1_]
def vv48_5_9_9 : S48_5_9_9 → List V × List AObj
  | ⟨n109, n110, i111, i112, d113, d114, b115, l116, b117, l118, d119, d120, d121, b122, l123, b124, l125, d126⟩ => ((fillVs ps48_5_9_9_0 [.n n109, .n n110, .i i111, .i i112, .d d113, .d d114, .b b115, .l l116, .b b117, .l l118, .d d119, .d d120, .d d121, .b b122, .l l123, .b b124, .l l125, .d d126]).1, (fillOs qs48_5_9_9_0 (fillVs ps48_5_9_9_0 [.n n109, .n n110, .i i111, .i i112, .d d113, .d d114, .b b115, .l l116, .b b117, .l l118, .d d119, .d d120, .d d121, .b b122, .l l123, .b b124, .l l125, .d d126]).2).1)
noncomputable def su48_5_9_9 (M : Nat) : Sum := sumJ [0, 1, 5, 6] [⟨ps48_5_9_9_0, qs48_5_9_9_0, of48_5_9_9_0⟩] [] (st48_5_9_9 M) ex48_5_9_9 M noSum
noncomputable def t7 (M : Nat) : List Ent := ⟨48, 9, 9, 5, su48_5_9_9 M⟩ :: t6 M
theorem t7_ok (M : Nat) : AllOk (e M) (tblOf (t7 M)) := AllOk.addJ (n0 := 10) (t6_ok M) (fun s => (vv48_5_9_9 s).1) (fun s => (vv48_5_9_9 s).2) (by kernel_rfl) rfl (.inl rfl) ⟨by intro ls s h; replace h : of48_5_9_9_0 ls = some s := h; unfold of48_5_9_9_0 at h; (repeat' split at h) <;> simp at h; subst h; exact ⟨by kernel_rfl, by kernel_rfl⟩, trivial⟩ (by intro s; kernel_rfl) (by intro s; kernel_rfl) (by intro s nx k; kernel_rfl)
structure S36_2_8_7 where
  (n133 n134 : Nat) (i135 i136 : Int) (d137 d138 : D) (b139 : Bool) (l140 : List D) (b141 : Bool) (l142 : List D) (d143 d144 : D) (b145 : Bool) (l146 : List D)
inductive X36_2_8_7 where
  | e0 (n133 : Nat) (i136 : Int) (d137 d138 : D) (b139 : Bool) (l140 : List D) (b141 : Bool) (l142 : List D) (d143 d144 : D) (b145 : Bool) (l146 : List D)
  | e1 (d137 d138 : D) (b139 : Bool) (l140 : List D) (b141 : Bool) (l142 : List D) (d143 d144 : D) (b145 : Bool) (l146 : List D)
def st36_2_8_7 (M : Nat) : S36_2_8_7 → (S36_2_8_7 → Option D) → (X36_2_8_7 → Option D) → Option D
  | ⟨n133, n134, i135, i136, d137, d138, b139, l140, b141, l142, d143, d144, b145, l146⟩, rec, K => (cond (ltI i136 i135) (cond (inb i136 n134) (bd (F34.s FUEL (ix l146 (n133 + i136.toNat))) fun r147 => (cond (eqI r147.i d144.i) (K (.e0 n133 i136 d137 d138 b139 l140 b141 l142 d143 d144 b145 l146)) (rec ⟨n133, n134, i135, (ad .i64 i136 1), d137, d138, b139, l140, b141, l142, d143, d144, b145, l146⟩))) none) (K (.e1 d137 d138 b139 l140 b141 l142 d143 d144 b145 l146)))
def ex36_2_8_7 (k : Kont) : X36_2_8_7 → Option D
  | .e0 n133 i136 d137 d138 b139 l140 b141 l142 d143 d144 b145 l146 => k .ret ((us 4 ((vi i136) :: (us 14 [])))) [(.var k0_ (vk k0_ d137)), (.var k1_ (vk k1_ d138)), (.var k0_ (vk k0_ (da [(dl b139 l140), (dl b141 l142)]))), (.var k1_ (vk k1_ d143)), (.var .func (vk .func (D.fn 34))), (.var (.int .i64) (vk (.int .i64) d144)), (.row 58 true b145 l146), (.var k1_ (vk k1_ (ix l146 (n133 + i136.toNat))))]
  | .e1 d137 d138 b139 l140 b141 l142 d143 d144 b145 l146 => k (.exit 0) ((us 19 [])) [(.var k0_ (vk k0_ d137)), (.var k1_ (vk k1_ d138)), (.var k0_ (vk k0_ (da [(dl b139 l140), (dl b141 l142)]))), (.var k1_ (vk k1_ d143)), (.var .func (vk .func (D.fn 34))), (.var (.int .i64) (vk (.int .i64) d144)), (.row 58 true b145 l146)]
def lv36_2_8_7 : S36_2_8_7 → List Leaf
  | ⟨n133, n134, i135, i136, d137, d138, b139, l140, b141, l142, d143, d144, b145, l146⟩ => [.n n133, .n n134, .i i135, .i i136, .d d137, .d d138, .b b139, .l l140, .b b141, .l l142, .d d143, .d d144, .b b145, .l l146]
def of36_2_8_7 : List Leaf → Option S36_2_8_7
  | [.n n133, .n n134, .i i135, .i i136, .d d137, .d d138, .b b139, .l l140, .b b141, .l l142, .d d143, .d d144, .b b145, .l l146] => some ⟨n133, n134, i135, i136, d137, d138, b139, l140, b141, l142, d143, d144, b145, l146⟩
  | _ => none
def ps36_2_8_7 : List PV := ((.sref 6) :: (.func 47 [] [(.ptr 4 [] .func), (.ptr 5 [] (.int .i64))]) :: (up 5 ((.d (.int .i64) (.int .i64)) :: (.d (.int .i64) (.int .i64)) :: (up 10 []))))
def qs36_2_8_7 : List PO := [q2_, q1_, q0_, q1_, (.var .func (.d .func (.fn 34))), (.var (.int .i64) (.d (.int .i64) .x)), (.row 58 true)]
noncomputable def t8 (M : Nat) : List Ent := ⟨36, 8, 7, 2, sumS [0, 1, 7, 8] ps36_2_8_7 qs36_2_8_7 [] of36_2_8_7 (st36_2_8_7 M) ex36_2_8_7 M⟩ :: t7 M
theorem t8_ok (M : Nat) : AllOk (e M) (tblOf (t8 M)) := AllOk.addS (n0 := 7) (lv := lv36_2_8_7) (t7_ok M) (by kernel_rfl) rfl (by intro ls s h; unfold of36_2_8_7 at h; (repeat' split at h) <;> simp at h; subst h; rfl) (by intro s; kernel_rfl) (by intro s; kernel_rfl) (by intro s nx k; kernel_rfl)
structure S36_2_8_9_w2 where
  (n149 n150 : Nat) (i151 i152 : Int) (d153 d154 : D) (b155 : Bool) (l156 : List D) (b157 : Bool) (l158 : List D) (d159 d160 : D) (b161 : Bool) (l162 : List D) (d163 : D) (b164 : Bool) (l165 : List D)
inductive X36_2_8_9_w2 where
  | e0 (n149 : Nat) (i152 : Int) (d153 d154 : D) (b155 : Bool) (l156 : List D) (b157 : Bool) (l158 : List D) (d159 d160 : D) (b161 : Bool) (l162 : List D) (d163 : D) (b164 : Bool) (l165 : List D)
  | e1 (d153 d154 : D) (b155 : Bool) (l156 : List D) (b157 : Bool) (l158 : List D) (d159 d160 : D) (b161 : Bool) (l162 : List D) (d163 : D) (b164 : Bool) (l165 : List D)
def st36_2_8_9_w2 (M : Nat) : S36_2_8_9_w2 → (S36_2_8_9_w2 → Option D) → (X36_2_8_9_w2 → Option D) → Option D
  | ⟨n149, n150, i151, i152, d153, d154, b155, l156, b157, l158, d159, d160, b161, l162, d163, b164, l165⟩, rec, K => (cond (ltI i152 i151) (cond (inb i152 n150) (bd (F34.s FUEL (ix l165 (n149 + i152.toNat))) fun r166 => (cond (eqI r166.i d160.i) (K (.e0 n149 i152 d153 d154 b155 l156 b157 l158 d159 d160 b161 l162 d163 b164 l165)) (rec ⟨n149, n150, i151, (ad .i64 i152 1), d153, d154, b155, l156, b157, l158, d159, d160, b161, l162, d163, b164, l165⟩))) none) (K (.e1 d153 d154 b155 l156 b157 l158 d159 d160 b161 l162 d163 b164 l165)))
def ex36_2_8_9_w2 (k : Kont) : X36_2_8_9_w2 → Option D
  | .e0 n149 i152 d153 d154 b155 l156 b157 l158 d159 d160 b161 l162 d163 b164 l165 => k .ret ((us 4 ((vi i152) :: (us 14 [])))) [(.var k0_ (vk k0_ d153)), (.var k1_ (vk k1_ d154)), (.var k0_ (vk k0_ (da [(dl b155 l156), (dl b157 l158)]))), (.var k1_ (vk k1_ d159)), (.var .func (vk .func (D.fn 34))), (.var (.int .i64) (vk (.int .i64) d160)), (.row 58 true b161 l162), (.var k1_ (vk k1_ d163)), (.row 58 true b164 l165), (.var k1_ (vk k1_ (ix l165 (n149 + i152.toNat))))]
  | .e1 d153 d154 b155 l156 b157 l158 d159 d160 b161 l162 d163 b164 l165 => k (.exit 0) ((us 19 [])) [(.var k0_ (vk k0_ d153)), (.var k1_ (vk k1_ d154)), (.var k0_ (vk k0_ (da [(dl b155 l156), (dl b157 l158)]))), (.var k1_ (vk k1_ d159)), (.var .func (vk .func (D.fn 34))), (.var (.int .i64) (vk (.int .i64) d160)), (.row 58 true b161 l162), (.var k1_ (vk k1_ d163)), (.row 58 true b164 l165)]
def of36_2_8_9_w2_0 : List Leaf → Option S36_2_8_9_w2
  | [.n n149, .n n150, .i i151, .i i152, .d d153, .d d154, .b b155, .l l156, .b b157, .l l158, .d d159, .d d160, .b b161, .l l162, .d d163, .b b164, .l l165] => some ⟨n149, n150, i151, i152, d153, d154, b155, l156, b157, l158, d159, d160, b161, l162, d163, b164, l165⟩
  | _ => none
def ps36_2_8_9_w2_0 : List PV := ((.sref 8) :: (.func 47 [] [(.ptr 4 [] .func), (.ptr 5 [] (.int .i64))]) :: (up 5 ((.d (.int .i64) (.int .i64)) :: (.d (.int .i64) (.int .i64)) :: (up 10 []))))
def qs36_2_8_9_w2_0 : List PO := [q2_, q1_, q0_, q1_, (.var .func (.d .func (.fn 34))), (.var (.int .i64) (.d (.int .i64) .x)), (.row 58 true), q1_, (.row 58 true)]
def vv36_2_8_9_w2 : S36_2_8_9_w2 → List V × List AObj
  | ⟨n149, n150, i151, i152, d153, d154, b155, l156, b157, l158, d159, d160, b161, l162, d163, b164, l165⟩ => ((fillVs ps36_2_8_9_w2_0 [.n n149, .n n150, .i i151, .i i152, .d d153, .d d154, .b b155, .l l156, .b b157, .l l158, .d d159, .d d160, .b b161, .l l162, .d d163, .b b164, .l l165]).1, (fillOs qs36_2_8_9_w2_0 (fillVs ps36_2_8_9_w2_0 [.n n149, .n n150, .i i151, .i i152, .d d153, .d d154, .b b155, .l l156, .b b157, .l l158, .d d159, .d d160, .b b161, .l l162, .d d163, .b b164, .l l165]).2).1)
noncomputable def su36_2_8_9_w2 (M : Nat) : Sum := sumJ [0, 1, 7, 8] [⟨ps36_2_8_9_w2_0, qs36_2_8_9_w2_0, of36_2_8_9_w2_0⟩] [] (st36_2_8_9_w2 M) ex36_2_8_9_w2 M (su36_2_8_9 M)
noncomputable def t9 (M : Nat) : List Ent := ⟨36, 8, 9, 2, su36_2_8_9_w2 M⟩ :: t8 M
theorem t9_ok (M : Nat) : AllOk (e M) (tblOf (t9 M)) := AllOk.addJ (n0 := 9) (t8_ok M) (fun s => (vv36_2_8_9_w2 s).1) (fun s => (vv36_2_8_9_w2 s).2) (by kernel_rfl) rfl (.inr (by kernel_rfl)) ⟨by intro ls s h; replace h : of36_2_8_9_w2_0 ls = some s := h; unfold of36_2_8_9_w2_0 at h; (repeat' split at h) <;> simp at h; subst h; exact ⟨by kernel_rfl, by kernel_rfl⟩, trivial⟩ (by intro s; kernel_rfl) (by intro s; kernel_rfl) (by intro s nx k; kernel_rfl)
structure S48_5_9_9_w2 where
  (n167 n168 : Nat) (i169 i170 : Int) (d171 d172 : D) (b173 : Bool) (l174 : List D) (b175 : Bool) (l176 : List D) (d177 d178 : D) (b179 : Bool) (l180 : List D) (d181 : D) (b182 : Bool) (l183 : List D) (d184 : D)
inductive X48_5_9_9_w2 where
  | e0 (n167 n168 : Nat) (i169 : Int) (d171 d172 : D) (b173 : Bool) (l174 : List D) (b175 : Bool) (l176 : List D) (d177 d178 : D) (b179 : Bool) (l180 : List D) (d181 : D) (b182 : Bool) (l183 : List D) (d184 : D)
def st48_5_9_9_w2 (M : Nat) : S48_5_9_9_w2 → (S48_5_9_9_w2 → Option D) → (X48_5_9_9_w2 → Option D) → Option D
  | ⟨n167, n168, i169, i170, d171, d172, b173, l174, b175, l176, d177, d178, b179, l180, d181, b182, l183, d184⟩, rec, K => (cond (ltI i170 (nI n168)) (cond (inb i170 n168) (bd (F34.s FUEL (ix l183 (n167 + i170.toNat))) fun r185 => (cond (!(eqI r185.i d178.i)) (cond (inb i169 n168) (rec ⟨n167, n168, (ad .i64 i169 1), (ad .i64 i170 1), d171, d172, b173, l174, b175, l176, d177, d178, b179, l180, d181, b182, (l183.set (n167 + i169.toNat) (ix l183 (n167 + i170.toNat))), d184⟩) none) (rec ⟨n167, n168, i169, (ad .i64 i170 1), d171, d172, b173, l174, b175, l176, d177, d178, b179, l180, d181, b182, l183, d184⟩))) none) (K (.e0 n167 n168 i169 d171 d172 b173 l174 b175 l176 d177 d178 b179 l180 d181 b182 l183 d184)))
def ex48_5_9_9_w2 (k : Kont) : X48_5_9_9_w2 → Option D
  | .e0 n167 n168 i169 d171 d172 b173 l174 b175 l176 d177 d178 b179 l180 d181 b182 l183 d184 => k (.exit 0) ((.sref 8 n167 n168) :: (us 4 ((vi i169) :: (us 36 [])))) [(.var k0_ (vk k0_ d171)), (.var k1_ (vk k1_ d172)), (.var k0_ (vk k0_ (da [(dl b173 l174), (dl b175 l176)]))), (.var k1_ (vk k1_ d177)), (.var .func (vk .func (D.fn 34))), (.var (.int .i64) (vk (.int .i64) d178)), (.row 58 true b179 l180), (.var k1_ (vk k1_ d181)), (.row 58 true b182 l183), (.var k1_ (vk k1_ d184))]
def of48_5_9_9_w2_0 : List Leaf → Option S48_5_9_9_w2
  | [.n n167, .n n168, .i i169, .i i170, .d d171, .d d172, .b b173, .l l174, .b b175, .l l176, .d d177, .d d178, .b b179, .l l180, .d d181, .b b182, .l l183, .d d184] => some ⟨n167, n168, i169, i170, d171, d172, b173, l174, b175, l176, d177, d178, b179, l180, d181, b182, l183, d184⟩
  | _ => none
def ps48_5_9_9_w2_0 : List PV := ((.sref 8) :: (.func 47 [] [(.ptr 4 [] .func), (.ptr 5 [] (.int .i64))]) :: (up 3 ((.d (.int .i64) (.int .i64)) :: (.d (.int .i64) (.int .i64)) :: (up 35 []))))
def qs48_5_9_9_w2_0 : List PO := [q2_, q1_, q0_, q1_, (.var .func (.d .func (.fn 34))), (.var (.int .i64) (.d (.int .i64) .x)), (.row 58 true), q1_, (.row 58 true), q1_]
def vv48_5_9_9_w2 : S48_5_9_9_w2 → List V × List AObj
  | ⟨n167, n168, i169, i170, d171, d172, b173, l174, b175, l176, d177, d178, b179, l180, d181, b182, l183, d184⟩ => ((fillVs ps48_5_9_9_w2_0 [.n n167, .n n168, .i i169, .i i170, .d d171, .d d172, .b b173, .l l174, .b b175, .l l176, .d d177, .d d178, .b b179, .l l180, .d d181, .b b182, .l l183, .d d184]).1, (fillOs qs48_5_9_9_w2_0 (fillVs ps48_5_9_9_w2_0 [.n n167, .n n168, .i i169, .i i170, .d d171, .d d172, .b b173, .l l174, .b b175, .l l176, .d d177, .d d178, .b b179, .l l180, .d d181, .b b182, .l l183, .d d184]).2).1)
noncomputable def su48_5_9_9_w2 (M : Nat) : Sum := sumJ [0, 1, 5, 6] [⟨ps48_5_9_9_w2_0, qs48_5_9_9_w2_0, of48_5_9_9_w2_0⟩] [] (st48_5_9_9_w2 M) ex48_5_9_9_w2 M (su48_5_9_9 M)
noncomputable def t10 (M : Nat) : List Ent := ⟨48, 9, 9, 5, su48_5_9_9_w2 M⟩ :: t9 M
theorem t10_ok (M : Nat) : AllOk (e M) (tblOf (t10 M)) := AllOk.addJ (n0 := 10) (t9_ok M) (fun s => (vv48_5_9_9_w2 s).1) (fun s => (vv48_5_9_9_w2 s).2) (by kernel_rfl) rfl (.inr (by kernel_rfl)) ⟨by intro ls s h; replace h : of48_5_9_9_w2_0 ls = some s := h; unfold of48_5_9_9_w2_0 at h; (repeat' split at h) <;> simp at h; subst h; exact ⟨by kernel_rfl, by kernel_rfl⟩, trivial⟩ (by intro s; kernel_rfl) (by intro s; kernel_rfl) (by intro s nx k; kernel_rfl)
structure S48_5_9_7 where
  (n186 n187 : Nat) (i188 i189 : Int) (d190 d191 : D) (b192 : Bool) (l193 : List D) (b194 : Bool) (l195 : List D) (d196 d197 : D) (b198 : Bool) (l199 : List D) (d200 : D)
inductive X48_5_9_7 where
  | e0 (n186 n187 : Nat) (i188 : Int) (d190 d191 : D) (b192 : Bool) (l193 : List D) (b194 : Bool) (l195 : List D) (d196 d197 : D) (b198 : Bool) (l199 : List D) (d200 : D)
def st48_5_9_7 (M : Nat) : S48_5_9_7 → (S48_5_9_7 → Option D) → (X48_5_9_7 → Option D) → Option D
  | ⟨n186, n187, i188, i189, d190, d191, b192, l193, b194, l195, d196, d197, b198, l199, d200⟩, rec, K => (cond (ltI i189 (nI n187)) (cond (inb i189 n187) (bd (F34.s FUEL (ix l199 (n186 + i189.toNat))) fun r201 => (cond (!(eqI r201.i d197.i)) (cond (inb i188 n187) (rec ⟨n186, n187, (ad .i64 i188 1), (ad .i64 i189 1), d190, d191, b192, l193, b194, l195, d196, d197, b198, (l199.set (n186 + i188.toNat) (ix l199 (n186 + i189.toNat))), d200⟩) none) (rec ⟨n186, n187, i188, (ad .i64 i189 1), d190, d191, b192, l193, b194, l195, d196, d197, b198, l199, d200⟩))) none) (K (.e0 n186 n187 i188 d190 d191 b192 l193 b194 l195 d196 d197 b198 l199 d200)))
def ex48_5_9_7 (k : Kont) : X48_5_9_7 → Option D
  | .e0 n186 n187 i188 d190 d191 b192 l193 b194 l195 d196 d197 b198 l199 d200 => k (.exit 0) ((.sref 6 n186 n187) :: (us 4 ((vi i188) :: (us 36 [])))) [(.var k0_ (vk k0_ d190)), (.var k1_ (vk k1_ d191)), (.var k0_ (vk k0_ (da [(dl b192 l193), (dl b194 l195)]))), (.var k1_ (vk k1_ d196)), (.var .func (vk .func (D.fn 34))), (.var (.int .i64) (vk (.int .i64) d197)), (.row 58 true b198 l199), (.var k1_ (vk k1_ d200))]
def lv48_5_9_7 : S48_5_9_7 → List Leaf
  | ⟨n186, n187, i188, i189, d190, d191, b192, l193, b194, l195, d196, d197, b198, l199, d200⟩ => [.n n186, .n n187, .i i188, .i i189, .d d190, .d d191, .b b192, .l l193, .b b194, .l l195, .d d196, .d d197, .b b198, .l l199, .d d200]
def of48_5_9_7 : List Leaf → Option S48_5_9_7
  | [.n n186, .n n187, .i i188, .i i189, .d d190, .d d191, .b b192, .l l193, .b b194, .l l195, .d d196, .d d197, .b b198, .l l199, .d d200] => some ⟨n186, n187, i188, i189, d190, d191, b192, l193, b194, l195, d196, d197, b198, l199, d200⟩
  | _ => none
def ps48_5_9_7 : List PV := ((.sref 6) :: (.func 47 [] [(.ptr 4 [] .func), (.ptr 5 [] (.int .i64))]) :: (up 3 ((.d (.int .i64) (.int .i64)) :: (.d (.int .i64) (.int .i64)) :: (up 35 []))))
def qs48_5_9_7 : List PO := [q2_, q1_, q0_, q1_, (.var .func (.d .func (.fn 34))), (.var (.int .i64) (.d (.int .i64) .x)), (.row 58 true), q1_]
noncomputable def t11 (M : Nat) : List Ent := ⟨48, 9, 7, 5, sumS [0, 1, 5, 6] ps48_5_9_7 qs48_5_9_7 [] of48_5_9_7 (st48_5_9_7 M) ex48_5_9_7 M⟩ :: t10 M
theorem t11_ok (M : Nat) : AllOk (e M) (tblOf (t11 M)) := AllOk.addS (n0 := 8) (lv := lv48_5_9_7) (t10_ok M) (by kernel_rfl) rfl (by intro ls s h; unfold of48_5_9_7 at h; (repeat' split at h) <;> simp at h; subst h; rfl) (by intro s; kernel_rfl) (by intro s; kernel_rfl) (by intro s nx k; kernel_rfl)
structure S36_2_8_8_w2 where
  (n204 n205 : Nat) (i206 i207 : Int) (d208 d209 : D) (b210 : Bool) (l211 : List D) (b212 : Bool) (l213 : List D) (d214 d215 : D) (b216 : Bool) (l217 : List D) (b218 : Bool) (l219 : List D)
inductive X36_2_8_8_w2 where
  | e0 (n204 : Nat) (i207 : Int) (d208 d209 : D) (b210 : Bool) (l211 : List D) (b212 : Bool) (l213 : List D) (d214 d215 : D) (b216 : Bool) (l217 : List D) (b218 : Bool) (l219 : List D)
  | e1 (d208 d209 : D) (b210 : Bool) (l211 : List D) (b212 : Bool) (l213 : List D) (d214 d215 : D) (b216 : Bool) (l217 : List D) (b218 : Bool) (l219 : List D)
def st36_2_8_8_w2 (M : Nat) : S36_2_8_8_w2 → (S36_2_8_8_w2 → Option D) → (X36_2_8_8_w2 → Option D) → Option D
  | ⟨n204, n205, i206, i207, d208, d209, b210, l211, b212, l213, d214, d215, b216, l217, b218, l219⟩, rec, K => (cond (ltI i207 i206) (cond (inb i207 n205) (bd (F34.s FUEL (ix l219 (n204 + i207.toNat))) fun r220 => (cond (eqI r220.i d215.i) (K (.e0 n204 i207 d208 d209 b210 l211 b212 l213 d214 d215 b216 l217 b218 l219)) (rec ⟨n204, n205, i206, (ad .i64 i207 1), d208, d209, b210, l211, b212, l213, d214, d215, b216, l217, b218, l219⟩))) none) (K (.e1 d208 d209 b210 l211 b212 l213 d214 d215 b216 l217 b218 l219)))
def ex36_2_8_8_w2 (k : Kont) : X36_2_8_8_w2 → Option D
  | .e0 n204 i207 d208 d209 b210 l211 b212 l213 d214 d215 b216 l217 b218 l219 => k .ret ((us 4 ((vi i207) :: (us 14 [])))) [(.var k0_ (vk k0_ d208)), (.var k1_ (vk k1_ d209)), (.var k0_ (vk k0_ (da [(dl b210 l211), (dl b212 l213)]))), (.var k1_ (vk k1_ d214)), (.var .func (vk .func (D.fn 34))), (.var (.int .i64) (vk (.int .i64) d215)), (.row 58 true b216 l217), (.row 58 true b218 l219), (.var k1_ (vk k1_ (ix l219 (n204 + i207.toNat))))]
  | .e1 d208 d209 b210 l211 b212 l213 d214 d215 b216 l217 b218 l219 => k (.exit 0) ((us 19 [])) [(.var k0_ (vk k0_ d208)), (.var k1_ (vk k1_ d209)), (.var k0_ (vk k0_ (da [(dl b210 l211), (dl b212 l213)]))), (.var k1_ (vk k1_ d214)), (.var .func (vk .func (D.fn 34))), (.var (.int .i64) (vk (.int .i64) d215)), (.row 58 true b216 l217), (.row 58 true b218 l219)]
def of36_2_8_8_w2_0 : List Leaf → Option S36_2_8_8_w2
  | [.n n204, .n n205, .i i206, .i i207, .d d208, .d d209, .b b210, .l l211, .b b212, .l l213, .d d214, .d d215, .b b216, .l l217, .b b218, .l l219] => some ⟨n204, n205, i206, i207, d208, d209, b210, l211, b212, l213, d214, d215, b216, l217, b218, l219⟩
  | _ => none
def ps36_2_8_8_w2_0 : List PV := ((.sref 7) :: (.func 47 [] [(.ptr 4 [] .func), (.ptr 5 [] (.int .i64))]) :: (up 5 ((.d (.int .i64) (.int .i64)) :: (.d (.int .i64) (.int .i64)) :: (up 10 []))))
def qs36_2_8_8_w2_0 : List PO := [q2_, q1_, q0_, q1_, (.var .func (.d .func (.fn 34))), (.var (.int .i64) (.d (.int .i64) .x)), (.row 58 true), (.row 58 true)]
def vv36_2_8_8_w2 : S36_2_8_8_w2 → List V × List AObj
  | ⟨n204, n205, i206, i207, d208, d209, b210, l211, b212, l213, d214, d215, b216, l217, b218, l219⟩ => ((fillVs ps36_2_8_8_w2_0 [.n n204, .n n205, .i i206, .i i207, .d d208, .d d209, .b b210, .l l211, .b b212, .l l213, .d d214, .d d215, .b b216, .l l217, .b b218, .l l219]).1, (fillOs qs36_2_8_8_w2_0 (fillVs ps36_2_8_8_w2_0 [.n n204, .n n205, .i i206, .i i207, .d d208, .d d209, .b b210, .l l211, .b b212, .l l213, .d d214, .d d215, .b b216, .l l217, .b b218, .l l219]).2).1)
noncomputable def su36_2_8_8_w2 (M : Nat) : Sum := sumJ [0, 1, 7, 8] [⟨ps36_2_8_8_w2_0, qs36_2_8_8_w2_0, of36_2_8_8_w2_0⟩] [] (st36_2_8_8_w2 M) ex36_2_8_8_w2 M (su36_2_8_8 M)
noncomputable def t12 (M : Nat) : List Ent := ⟨36, 8, 8, 2, su36_2_8_8_w2 M⟩ :: t11 M
theorem t12_ok (M : Nat) : AllOk (e M) (tblOf (t12 M)) := AllOk.addJ (n0 := 8) (t11_ok M) (fun s => (vv36_2_8_8_w2 s).1) (fun s => (vv36_2_8_8_w2 s).2) (by kernel_rfl) rfl (.inr (by kernel_rfl)) ⟨by intro ls s h; replace h : of36_2_8_8_w2_0 ls = some s := h; unfold of36_2_8_8_w2_0 at h; (repeat' split at h) <;> simp at h; subst h; exact ⟨by kernel_rfl, by kernel_rfl⟩, trivial⟩ (by intro s; kernel_rfl) (by intro s; kernel_rfl) (by intro s nx k; kernel_rfl)
structure S48_5_9_8_w2 where
  (n221 n222 : Nat) (i223 i224 : Int) (d225 d226 : D) (b227 : Bool) (l228 : List D) (b229 : Bool) (l230 : List D) (d231 d232 : D) (b233 : Bool) (l234 : List D) (b235 : Bool) (l236 : List D) (d237 : D)
inductive X48_5_9_8_w2 where
  | e0 (n221 n222 : Nat) (i223 : Int) (d225 d226 : D) (b227 : Bool) (l228 : List D) (b229 : Bool) (l230 : List D) (d231 d232 : D) (b233 : Bool) (l234 : List D) (b235 : Bool) (l236 : List D) (d237 : D)
def st48_5_9_8_w2 (M : Nat) : S48_5_9_8_w2 → (S48_5_9_8_w2 → Option D) → (X48_5_9_8_w2 → Option D) → Option D
  | ⟨n221, n222, i223, i224, d225, d226, b227, l228, b229, l230, d231, d232, b233, l234, b235, l236, d237⟩, rec, K => (cond (ltI i224 (nI n222)) (cond (inb i224 n222) (bd (F34.s FUEL (ix l236 (n221 + i224.toNat))) fun r238 => (cond (!(eqI r238.i d232.i)) (cond (inb i223 n222) (rec ⟨n221, n222, (ad .i64 i223 1), (ad .i64 i224 1), d225, d226, b227, l228, b229, l230, d231, d232, b233, l234, b235, (l236.set (n221 + i223.toNat) (ix l236 (n221 + i224.toNat))), d237⟩) none) (rec ⟨n221, n222, i223, (ad .i64 i224 1), d225, d226, b227, l228, b229, l230, d231, d232, b233, l234, b235, l236, d237⟩))) none) (K (.e0 n221 n222 i223 d225 d226 b227 l228 b229 l230 d231 d232 b233 l234 b235 l236 d237)))
def ex48_5_9_8_w2 (k : Kont) : X48_5_9_8_w2 → Option D
  | .e0 n221 n222 i223 d225 d226 b227 l228 b229 l230 d231 d232 b233 l234 b235 l236 d237 => k (.exit 0) ((.sref 7 n221 n222) :: (us 4 ((vi i223) :: (us 36 [])))) [(.var k0_ (vk k0_ d225)), (.var k1_ (vk k1_ d226)), (.var k0_ (vk k0_ (da [(dl b227 l228), (dl b229 l230)]))), (.var k1_ (vk k1_ d231)), (.var .func (vk .func (D.fn 34))), (.var (.int .i64) (vk (.int .i64) d232)), (.row 58 true b233 l234), (.row 58 true b235 l236), (.var k1_ (vk k1_ d237))]
def of48_5_9_8_w2_0 : List Leaf → Option S48_5_9_8_w2
  | [.n n221, .n n222, .i i223, .i i224, .d d225, .d d226, .b b227, .l l228, .b b229, .l l230, .d d231, .d d232, .b b233, .l l234, .b b235, .l l236, .d d237] => some ⟨n221, n222, i223, i224, d225, d226, b227, l228, b229, l230, d231, d232, b233, l234, b235, l236, d237⟩
  | _ => none
def ps48_5_9_8_w2_0 : List PV := ((.sref 7) :: (.func 47 [] [(.ptr 4 [] .func), (.ptr 5 [] (.int .i64))]) :: (up 3 ((.d (.int .i64) (.int .i64)) :: (.d (.int .i64) (.int .i64)) :: (up 35 []))))
def qs48_5_9_8_w2_0 : List PO := [q2_, q1_, q0_, q1_, (.var .func (.d .func (.fn 34))), (.var (.int .i64) (.d (.int .i64) .x)), (.row 58 true), (.row 58 true), q1_]
def vv48_5_9_8_w2 : S48_5_9_8_w2 → List V × List AObj
  | ⟨n221, n222, i223, i224, d225, d226, b227, l228, b229, l230, d231, d232, b233, l234, b235, l236, d237⟩ => ((fillVs ps48_5_9_8_w2_0 [.n n221, .n n222, .i i223, .i i224, .d d225, .d d226, .b b227, .l l228, .b b229, .l l230, .d d231, .d d232, .b b233, .l l234, .b b235, .l l236, .d d237]).1, (fillOs qs48_5_9_8_w2_0 (fillVs ps48_5_9_8_w2_0 [.n n221, .n n222, .i i223, .i i224, .d d225, .d d226, .b b227, .l l228, .b b229, .l l230, .d d231, .d d232, .b b233, .l l234, .b b235, .l l236, .d d237]).2).1)
noncomputable def su48_5_9_8_w2 (M : Nat) : Sum := sumJ [0, 1, 5, 6] [⟨ps48_5_9_8_w2_0, qs48_5_9_8_w2_0, of48_5_9_8_w2_0⟩] [] (st48_5_9_8_w2 M) ex48_5_9_8_w2 M (su48_5_9_8 M)
noncomputable def t (M : Nat) : List Ent := ⟨48, 9, 8, 5, su48_5_9_8_w2 M⟩ :: t12 M
theorem t_ok (M : Nat) : AllOk (e M) (tblOf (t M)) := AllOk.addJ (n0 := 9) (t12_ok M) (fun s => (vv48_5_9_8_w2 s).1) (fun s => (vv48_5_9_8_w2 s).2) (by kernel_rfl) rfl (.inr (by kernel_rfl)) ⟨by intro ls s h; replace h : of48_5_9_8_w2_0 ls = some s := h; unfold of48_5_9_8_w2_0 at h; (repeat' split at h) <;> simp at h; subst h; exact ⟨by kernel_rfl, by kernel_rfl⟩, trivial⟩ (by intro s; kernel_rfl) (by intro s; kernel_rfl) (by intro s nx k; kernel_rfl)
def s (M : Nat) (p0 : D) (p1 : D) : Option D :=
  (bd (F34.s FUEL p1) fun r1 => (goS (st36_2 M) M ⟨(p0.at 0), (nI (p0.at 0).elems.length), 0, p0, p1, false, [], false, [], p1, r1⟩ fun x => match x with | .e0 d2 i4 d5 d6 b7 l8 b9 l10 d11 d12 => (cond (ltI i4 0) (cond (true && (leI 0 (nI (p0.at 0).elems.length)) && (leI (nI (p0.at 0).elems.length) (nI (p0.at 0).elems.length)) && (leI (nI (p0.at 0).elems.length) (nI (p0.at 0).elems.length))) (bd (F49.s FUEL (dl (p0.at 0).nn (((p0.at 0).elems.drop 0).take ((p0.at 0).elems.length - 0)))) fun r15 => (goS (st36_2_8_8 M) M ⟨0, r15.elems.length, (nI r15.elems.length), 0, d5, d6, b7, l8, b9, l10, d11, d12, (ix d2.elems i4.toNat), r15.nn, r15.elems⟩ fun x => match x with | .e0 n16 i19 d20 d21 b22 l23 b24 l25 d26 d27 d28 b29 l30 => (cond (eqI i19 (-1)) (cond ((leI 0 (nI (p0.at 0).elems.length)) && (leI (nI (p0.at 0).elems.length) (nI (p0.at 0).elems.length)) && (leI (nI (p0.at 0).elems.length) (nI (p0.at 0).elems.length)) && (leI (nI (p0.at 0).elems.length) (nI (p0.at 0).elems.length))) (bd (F49.s FUEL (dl (p0.at 0).nn (((p0.at 0).elems.drop (p0.at 0).elems.length).take ((p0.at 0).elems.length - (p0.at 0).elems.length)))) fun r32 => (goS (st36_2_8_10 M) M ⟨0, r32.elems.length, (nI r32.elems.length), 0, d20, d21, b22, l23, b24, l25, d26, d27, d28, b29, l30, (ix l30 (n16 + i19.toNat)), r32.nn, r32.elems⟩ fun x => match x with | .e0 n33 i36 d37 d38 b39 l40 b41 l42 d43 d44 d45 b46 l47 d48 b49 l50 => (cond (eqI i36 (-1)) (cond (mx (r15.elems.length + 1)) (cond (mx ((r15.elems.length + 1) + ((l50.drop 0).take r32.elems.length).length)) (some (da [(dl ((b46 || true) || (!((l50.drop 0).take r32.elems.length).isEmpty)) (((ap (((ap ((l47.drop 0).take r15.elems.length) [d43]).drop 0).take (r15.elems.length + 1)) ((l50.drop 0).take r32.elems.length)).drop 0).take ((r15.elems.length + 1) + ((l50.drop 0).take r32.elems.length).length))), (d37.at 1)])) none) none) (goS (st48_5 M) M ⟨0, r32.elems.length, i36, (ad .i64 i36 1), d37, d38, b39, l40, b41, l42, d43, d44, d45, b46, l47, d48, b49, l50, (ix l50 (n33 + i36.toNat))⟩ fun x => match x with | .e0 n52 n53 i54 d56 d57 b58 l59 b60 l61 d62 d63 d64 b65 l66 d67 b68 l69 d70 => (cond ((leI 0 i54) && (leI i54 (nI n53)) && (leN (n52 + n53) l69.length)) (cond (true && (leI 0 i54) && (leN (n52 + i54.toNat) (ap (ap (l69.take (n52 + i54.toNat)) (rp (n53 - i54.toNat) (da [(di 0), (di 0), (di 0), (di 0)]))) (l69.drop ((n52 + i54.toNat) + (n53 - i54.toNat)))).length)) (cond (mx (r15.elems.length + 1)) (cond (mx ((r15.elems.length + 1) + (((ap (ap (l69.take (n52 + i54.toNat)) (rp (n53 - i54.toNat) (da [(di 0), (di 0), (di 0), (di 0)]))) (l69.drop ((n52 + i54.toNat) + (n53 - i54.toNat)))).drop (n52 + 0)).take (i54.toNat - 0)).length)) (some (da [(dl ((b65 || true) || (!(((ap (ap (l69.take (n52 + i54.toNat)) (rp (n53 - i54.toNat) (da [(di 0), (di 0), (di 0), (di 0)]))) (l69.drop ((n52 + i54.toNat) + (n53 - i54.toNat)))).drop (n52 + 0)).take (i54.toNat - 0)).isEmpty)) (((ap (((ap ((l66.drop 0).take r15.elems.length) [d62]).drop 0).take (r15.elems.length + 1)) (((ap (ap (l69.take (n52 + i54.toNat)) (rp (n53 - i54.toNat) (da [(di 0), (di 0), (di 0), (di 0)]))) (l69.drop ((n52 + i54.toNat) + (n53 - i54.toNat)))).drop (n52 + 0)).take (i54.toNat - 0))).drop 0).take ((r15.elems.length + 1) + (((ap (ap (l69.take (n52 + i54.toNat)) (rp (n53 - i54.toNat) (da [(di 0), (di 0), (di 0), (di 0)]))) (l69.drop ((n52 + i54.toNat) + (n53 - i54.toNat)))).drop (n52 + 0)).take (i54.toNat - 0)).length))), (d56.at 1)])) none) none) none) none))) | .e1 d37 d38 b39 l40 b41 l42 d43 d44 d45 b46 l47 d48 b49 l50 => (cond (mx (r15.elems.length + 1)) (cond (mx ((r15.elems.length + 1) + ((l50.drop 0).take r32.elems.length).length)) (some (da [(dl ((b46 || true) || (!((l50.drop 0).take r32.elems.length).isEmpty)) (((ap (((ap ((l47.drop 0).take r15.elems.length) [d43]).drop 0).take (r15.elems.length + 1)) ((l50.drop 0).take r32.elems.length)).drop 0).take ((r15.elems.length + 1) + ((l50.drop 0).take r32.elems.length).length))), (d37.at 1)])) none) none))) none) (goS (st48_5_9_8 M) M ⟨0, r15.elems.length, i19, (ad .i64 i19 1), d20, d21, b22, l23, b24, l25, d26, d27, d28, b29, l30, (ix l30 (n16 + i19.toNat))⟩ fun x => match x with | .e0 n72 n73 i74 d76 d77 b78 l79 b80 l81 d82 d83 d84 b85 l86 d87 => (cond ((leI 0 i74) && (leI i74 (nI n73)) && (leN (n72 + n73) l86.length)) (cond (true && (leI 0 i74) && (leN (n72 + i74.toNat) (ap (ap (l86.take (n72 + i74.toNat)) (rp (n73 - i74.toNat) (da [(di 0), (di 0), (di 0), (di 0)]))) (l86.drop ((n72 + i74.toNat) + (n73 - i74.toNat)))).length)) (cond ((leI 0 (nI (p0.at 0).elems.length)) && (leI (nI (p0.at 0).elems.length) (nI (p0.at 0).elems.length)) && (leI (nI (p0.at 0).elems.length) (nI (p0.at 0).elems.length)) && (leI (nI (p0.at 0).elems.length) (nI (p0.at 0).elems.length))) (bd (F49.s FUEL (dl (p0.at 0).nn (((p0.at 0).elems.drop (p0.at 0).elems.length).take ((p0.at 0).elems.length - (p0.at 0).elems.length)))) fun r89 => (goS (st36_2_8_10 M) M ⟨0, r89.elems.length, (nI r89.elems.length), 0, d76, d77, b78, l79, b80, l81, d82, d83, d84, b85, (ap (ap (l86.take (n72 + i74.toNat)) (rp (n73 - i74.toNat) (da [(di 0), (di 0), (di 0), (di 0)]))) (l86.drop ((n72 + i74.toNat) + (n73 - i74.toNat)))), d87, r89.nn, r89.elems⟩ fun x => match x with | .e0 n33 i36 d37 d38 b39 l40 b41 l42 d43 d44 d45 b46 l47 d48 b49 l50 => (cond (eqI i36 (-1)) (cond (mx ((i74.toNat - 0) + 1)) (cond (mx (((i74.toNat - 0) + 1) + ((l50.drop 0).take r89.elems.length).length)) (some (da [(dl ((b46 || true) || (!((l50.drop 0).take r89.elems.length).isEmpty)) (((ap (((ap ((l47.drop (n72 + 0)).take (i74.toNat - 0)) [d43]).drop 0).take ((i74.toNat - 0) + 1)) ((l50.drop 0).take r89.elems.length)).drop 0).take (((i74.toNat - 0) + 1) + ((l50.drop 0).take r89.elems.length).length))), (d37.at 1)])) none) none) (goS (st48_5 M) M ⟨0, r89.elems.length, i36, (ad .i64 i36 1), d37, d38, b39, l40, b41, l42, d43, d44, d45, b46, l47, d48, b49, l50, (ix l50 (n33 + i36.toNat))⟩ fun x => match x with | .e0 n52 n53 i54 d56 d57 b58 l59 b60 l61 d62 d63 d64 b65 l66 d67 b68 l69 d70 => (cond ((leI 0 i54) && (leI i54 (nI n53)) && (leN (n52 + n53) l69.length)) (cond (true && (leI 0 i54) && (leN (n52 + i54.toNat) (ap (ap (l69.take (n52 + i54.toNat)) (rp (n53 - i54.toNat) (da [(di 0), (di 0), (di 0), (di 0)]))) (l69.drop ((n52 + i54.toNat) + (n53 - i54.toNat)))).length)) (cond (mx ((i74.toNat - 0) + 1)) (cond (mx (((i74.toNat - 0) + 1) + (((ap (ap (l69.take (n52 + i54.toNat)) (rp (n53 - i54.toNat) (da [(di 0), (di 0), (di 0), (di 0)]))) (l69.drop ((n52 + i54.toNat) + (n53 - i54.toNat)))).drop (n52 + 0)).take (i54.toNat - 0)).length)) (some (da [(dl ((b65 || true) || (!(((ap (ap (l69.take (n52 + i54.toNat)) (rp (n53 - i54.toNat) (da [(di 0), (di 0), (di 0), (di 0)]))) (l69.drop ((n52 + i54.toNat) + (n53 - i54.toNat)))).drop (n52 + 0)).take (i54.toNat - 0)).isEmpty)) (((ap (((ap ((l66.drop (n72 + 0)).take (i74.toNat - 0)) [d62]).drop 0).take ((i74.toNat - 0) + 1)) (((ap (ap (l69.take (n52 + i54.toNat)) (rp (n53 - i54.toNat) (da [(di 0), (di 0), (di 0), (di 0)]))) (l69.drop ((n52 + i54.toNat) + (n53 - i54.toNat)))).drop (n52 + 0)).take (i54.toNat - 0))).drop 0).take (((i74.toNat - 0) + 1) + (((ap (ap (l69.take (n52 + i54.toNat)) (rp (n53 - i54.toNat) (da [(di 0), (di 0), (di 0), (di 0)]))) (l69.drop ((n52 + i54.toNat) + (n53 - i54.toNat)))).drop (n52 + 0)).take (i54.toNat - 0)).length))), (d56.at 1)])) none) none) none) none))) | .e1 d37 d38 b39 l40 b41 l42 d43 d44 d45 b46 l47 d48 b49 l50 => (cond (mx ((i74.toNat - 0) + 1)) (cond (mx (((i74.toNat - 0) + 1) + ((l50.drop 0).take r89.elems.length).length)) (some (da [(dl ((b46 || true) || (!((l50.drop 0).take r89.elems.length).isEmpty)) (((ap (((ap ((l47.drop (n72 + 0)).take (i74.toNat - 0)) [d43]).drop 0).take ((i74.toNat - 0) + 1)) ((l50.drop 0).take r89.elems.length)).drop 0).take (((i74.toNat - 0) + 1) + ((l50.drop 0).take r89.elems.length).length))), (d37.at 1)])) none) none))) none) none) none))) | .e1 d20 d21 b22 l23 b24 l25 d26 d27 d28 b29 l30 => (cond ((leI 0 (nI (p0.at 0).elems.length)) && (leI (nI (p0.at 0).elems.length) (nI (p0.at 0).elems.length)) && (leI (nI (p0.at 0).elems.length) (nI (p0.at 0).elems.length)) && (leI (nI (p0.at 0).elems.length) (nI (p0.at 0).elems.length))) (bd (F49.s FUEL (dl (p0.at 0).nn (((p0.at 0).elems.drop (p0.at 0).elems.length).take ((p0.at 0).elems.length - (p0.at 0).elems.length)))) fun r90 => (goS (st36_2_8_9 M) M ⟨0, r90.elems.length, (nI r90.elems.length), 0, d20, d21, b22, l23, b24, l25, d26, d27, d28, b29, l30, r90.nn, r90.elems⟩ fun x => match x with | .e0 n91 i94 d95 d96 b97 l98 b99 l100 d101 d102 d103 b104 l105 b106 l107 => (cond (eqI i94 (-1)) (cond (mx (r15.elems.length + 1)) (cond (mx ((r15.elems.length + 1) + ((l107.drop 0).take r90.elems.length).length)) (some (da [(dl ((b104 || true) || (!((l107.drop 0).take r90.elems.length).isEmpty)) (((ap (((ap ((l105.drop 0).take r15.elems.length) [d101]).drop 0).take (r15.elems.length + 1)) ((l107.drop 0).take r90.elems.length)).drop 0).take ((r15.elems.length + 1) + ((l107.drop 0).take r90.elems.length).length))), (d95.at 1)])) none) none) (goS (st48_5_9_9 M) M ⟨0, r90.elems.length, i94, (ad .i64 i94 1), d95, d96, b97, l98, b99, l100, d101, d102, d103, b104, l105, b106, l107, (ix l107 (n91 + i94.toNat))⟩ fun x => match x with | .e0 n109 n110 i111 d113 d114 b115 l116 b117 l118 d119 d120 d121 b122 l123 b124 l125 d126 => (cond ((leI 0 i111) && (leI i111 (nI n110)) && (leN (n109 + n110) l125.length)) (cond (true && (leI 0 i111) && (leN (n109 + i111.toNat) (ap (ap (l125.take (n109 + i111.toNat)) (rp (n110 - i111.toNat) (da [(di 0), (di 0), (di 0), (di 0)]))) (l125.drop ((n109 + i111.toNat) + (n110 - i111.toNat)))).length)) (cond (mx (r15.elems.length + 1)) (cond (mx ((r15.elems.length + 1) + (((ap (ap (l125.take (n109 + i111.toNat)) (rp (n110 - i111.toNat) (da [(di 0), (di 0), (di 0), (di 0)]))) (l125.drop ((n109 + i111.toNat) + (n110 - i111.toNat)))).drop (n109 + 0)).take (i111.toNat - 0)).length)) (some (da [(dl ((b122 || true) || (!(((ap (ap (l125.take (n109 + i111.toNat)) (rp (n110 - i111.toNat) (da [(di 0), (di 0), (di 0), (di 0)]))) (l125.drop ((n109 + i111.toNat) + (n110 - i111.toNat)))).drop (n109 + 0)).take (i111.toNat - 0)).isEmpty)) (((ap (((ap ((l123.drop 0).take r15.elems.length) [d119]).drop 0).take (r15.elems.length + 1)) (((ap (ap (l125.take (n109 + i111.toNat)) (rp (n110 - i111.toNat) (da [(di 0), (di 0), (di 0), (di 0)]))) (l125.drop ((n109 + i111.toNat) + (n110 - i111.toNat)))).drop (n109 + 0)).take (i111.toNat - 0))).drop 0).take ((r15.elems.length + 1) + (((ap (ap (l125.take (n109 + i111.toNat)) (rp (n110 - i111.toNat) (da [(di 0), (di 0), (di 0), (di 0)]))) (l125.drop ((n109 + i111.toNat) + (n110 - i111.toNat)))).drop (n109 + 0)).take (i111.toNat - 0)).length))), (d113.at 1)])) none) none) none) none))) | .e1 d95 d96 b97 l98 b99 l100 d101 d102 d103 b104 l105 b106 l107 => (cond (mx (r15.elems.length + 1)) (cond (mx ((r15.elems.length + 1) + ((l107.drop 0).take r90.elems.length).length)) (some (da [(dl ((b104 || true) || (!((l107.drop 0).take r90.elems.length).isEmpty)) (((ap (((ap ((l105.drop 0).take r15.elems.length) [d101]).drop 0).take (r15.elems.length + 1)) ((l107.drop 0).take r90.elems.length)).drop 0).take ((r15.elems.length + 1) + ((l107.drop 0).take r90.elems.length).length))), (d95.at 1)])) none) none))) none))) none) (cond (true && (leI 0 i4) && (leI i4 (nI (p0.at 0).elems.length)) && (leI (nI (p0.at 0).elems.length) (nI (p0.at 0).elems.length))) (bd (F49.s FUEL (dl (p0.at 0).nn (((p0.at 0).elems.drop 0).take (i4.toNat - 0)))) fun r128 => (goS (st36_2_8_8 M) M ⟨0, r128.elems.length, (nI r128.elems.length), 0, d5, d6, b7, l8, b9, l10, d11, d12, (ix d2.elems i4.toNat), r128.nn, r128.elems⟩ fun x => match x with | .e0 n16 i19 d20 d21 b22 l23 b24 l25 d26 d27 d28 b29 l30 => (cond (eqI i19 (-1)) (cond ((leI 0 i4) && (leI i4 (nI (p0.at 0).elems.length)) && (leI (nI (p0.at 0).elems.length) (nI (p0.at 0).elems.length)) && (leI (nI (p0.at 0).elems.length) (nI (p0.at 0).elems.length))) (bd (F49.s FUEL (dl (p0.at 0).nn (((p0.at 0).elems.drop i4.toNat).take ((p0.at 0).elems.length - i4.toNat)))) fun r129 => (goS (st36_2_8_10 M) M ⟨0, r129.elems.length, (nI r129.elems.length), 0, d20, d21, b22, l23, b24, l25, d26, d27, d28, b29, l30, (ix l30 (n16 + i19.toNat)), r129.nn, r129.elems⟩ fun x => match x with | .e0 n33 i36 d37 d38 b39 l40 b41 l42 d43 d44 d45 b46 l47 d48 b49 l50 => (cond (eqI i36 (-1)) (cond (mx (r128.elems.length + 1)) (cond (mx ((r128.elems.length + 1) + ((l50.drop 0).take r129.elems.length).length)) (some (da [(dl ((b46 || true) || (!((l50.drop 0).take r129.elems.length).isEmpty)) (((ap (((ap ((l47.drop 0).take r128.elems.length) [d43]).drop 0).take (r128.elems.length + 1)) ((l50.drop 0).take r129.elems.length)).drop 0).take ((r128.elems.length + 1) + ((l50.drop 0).take r129.elems.length).length))), (d37.at 1)])) none) none) (goS (st48_5 M) M ⟨0, r129.elems.length, i36, (ad .i64 i36 1), d37, d38, b39, l40, b41, l42, d43, d44, d45, b46, l47, d48, b49, l50, (ix l50 (n33 + i36.toNat))⟩ fun x => match x with | .e0 n52 n53 i54 d56 d57 b58 l59 b60 l61 d62 d63 d64 b65 l66 d67 b68 l69 d70 => (cond ((leI 0 i54) && (leI i54 (nI n53)) && (leN (n52 + n53) l69.length)) (cond (true && (leI 0 i54) && (leN (n52 + i54.toNat) (ap (ap (l69.take (n52 + i54.toNat)) (rp (n53 - i54.toNat) (da [(di 0), (di 0), (di 0), (di 0)]))) (l69.drop ((n52 + i54.toNat) + (n53 - i54.toNat)))).length)) (cond (mx (r128.elems.length + 1)) (cond (mx ((r128.elems.length + 1) + (((ap (ap (l69.take (n52 + i54.toNat)) (rp (n53 - i54.toNat) (da [(di 0), (di 0), (di 0), (di 0)]))) (l69.drop ((n52 + i54.toNat) + (n53 - i54.toNat)))).drop (n52 + 0)).take (i54.toNat - 0)).length)) (some (da [(dl ((b65 || true) || (!(((ap (ap (l69.take (n52 + i54.toNat)) (rp (n53 - i54.toNat) (da [(di 0), (di 0), (di 0), (di 0)]))) (l69.drop ((n52 + i54.toNat) + (n53 - i54.toNat)))).drop (n52 + 0)).take (i54.toNat - 0)).isEmpty)) (((ap (((ap ((l66.drop 0).take r128.elems.length) [d62]).drop 0).take (r128.elems.length + 1)) (((ap (ap (l69.take (n52 + i54.toNat)) (rp (n53 - i54.toNat) (da [(di 0), (di 0), (di 0), (di 0)]))) (l69.drop ((n52 + i54.toNat) + (n53 - i54.toNat)))).drop (n52 + 0)).take (i54.toNat - 0))).drop 0).take ((r128.elems.length + 1) + (((ap (ap (l69.take (n52 + i54.toNat)) (rp (n53 - i54.toNat) (da [(di 0), (di 0), (di 0), (di 0)]))) (l69.drop ((n52 + i54.toNat) + (n53 - i54.toNat)))).drop (n52 + 0)).take (i54.toNat - 0)).length))), (d56.at 1)])) none) none) none) none))) | .e1 d37 d38 b39 l40 b41 l42 d43 d44 d45 b46 l47 d48 b49 l50 => (cond (mx (r128.elems.length + 1)) (cond (mx ((r128.elems.length + 1) + ((l50.drop 0).take r129.elems.length).length)) (some (da [(dl ((b46 || true) || (!((l50.drop 0).take r129.elems.length).isEmpty)) (((ap (((ap ((l47.drop 0).take r128.elems.length) [d43]).drop 0).take (r128.elems.length + 1)) ((l50.drop 0).take r129.elems.length)).drop 0).take ((r128.elems.length + 1) + ((l50.drop 0).take r129.elems.length).length))), (d37.at 1)])) none) none))) none) (goS (st48_5_9_8 M) M ⟨0, r128.elems.length, i19, (ad .i64 i19 1), d20, d21, b22, l23, b24, l25, d26, d27, d28, b29, l30, (ix l30 (n16 + i19.toNat))⟩ fun x => match x with | .e0 n72 n73 i74 d76 d77 b78 l79 b80 l81 d82 d83 d84 b85 l86 d87 => (cond ((leI 0 i74) && (leI i74 (nI n73)) && (leN (n72 + n73) l86.length)) (cond (true && (leI 0 i74) && (leN (n72 + i74.toNat) (ap (ap (l86.take (n72 + i74.toNat)) (rp (n73 - i74.toNat) (da [(di 0), (di 0), (di 0), (di 0)]))) (l86.drop ((n72 + i74.toNat) + (n73 - i74.toNat)))).length)) (cond ((leI 0 i4) && (leI i4 (nI (p0.at 0).elems.length)) && (leI (nI (p0.at 0).elems.length) (nI (p0.at 0).elems.length)) && (leI (nI (p0.at 0).elems.length) (nI (p0.at 0).elems.length))) (bd (F49.s FUEL (dl (p0.at 0).nn (((p0.at 0).elems.drop i4.toNat).take ((p0.at 0).elems.length - i4.toNat)))) fun r130 => (goS (st36_2_8_10 M) M ⟨0, r130.elems.length, (nI r130.elems.length), 0, d76, d77, b78, l79, b80, l81, d82, d83, d84, b85, (ap (ap (l86.take (n72 + i74.toNat)) (rp (n73 - i74.toNat) (da [(di 0), (di 0), (di 0), (di 0)]))) (l86.drop ((n72 + i74.toNat) + (n73 - i74.toNat)))), d87, r130.nn, r130.elems⟩ fun x => match x with | .e0 n33 i36 d37 d38 b39 l40 b41 l42 d43 d44 d45 b46 l47 d48 b49 l50 => (cond (eqI i36 (-1)) (cond (mx ((i74.toNat - 0) + 1)) (cond (mx (((i74.toNat - 0) + 1) + ((l50.drop 0).take r130.elems.length).length)) (some (da [(dl ((b46 || true) || (!((l50.drop 0).take r130.elems.length).isEmpty)) (((ap (((ap ((l47.drop (n72 + 0)).take (i74.toNat - 0)) [d43]).drop 0).take ((i74.toNat - 0) + 1)) ((l50.drop 0).take r130.elems.length)).drop 0).take (((i74.toNat - 0) + 1) + ((l50.drop 0).take r130.elems.length).length))), (d37.at 1)])) none) none) (goS (st48_5 M) M ⟨0, r130.elems.length, i36, (ad .i64 i36 1), d37, d38, b39, l40, b41, l42, d43, d44, d45, b46, l47, d48, b49, l50, (ix l50 (n33 + i36.toNat))⟩ fun x => match x with | .e0 n52 n53 i54 d56 d57 b58 l59 b60 l61 d62 d63 d64 b65 l66 d67 b68 l69 d70 => (cond ((leI 0 i54) && (leI i54 (nI n53)) && (leN (n52 + n53) l69.length)) (cond (true && (leI 0 i54) && (leN (n52 + i54.toNat) (ap (ap (l69.take (n52 + i54.toNat)) (rp (n53 - i54.toNat) (da [(di 0), (di 0), (di 0), (di 0)]))) (l69.drop ((n52 + i54.toNat) + (n53 - i54.toNat)))).length)) (cond (mx ((i74.toNat - 0) + 1)) (cond (mx (((i74.toNat - 0) + 1) + (((ap (ap (l69.take (n52 + i54.toNat)) (rp (n53 - i54.toNat) (da [(di 0), (di 0), (di 0), (di 0)]))) (l69.drop ((n52 + i54.toNat) + (n53 - i54.toNat)))).drop (n52 + 0)).take (i54.toNat - 0)).length)) (some (da [(dl ((b65 || true) || (!(((ap (ap (l69.take (n52 + i54.toNat)) (rp (n53 - i54.toNat) (da [(di 0), (di 0), (di 0), (di 0)]))) (l69.drop ((n52 + i54.toNat) + (n53 - i54.toNat)))).drop (n52 + 0)).take (i54.toNat - 0)).isEmpty)) (((ap (((ap ((l66.drop (n72 + 0)).take (i74.toNat - 0)) [d62]).drop 0).take ((i74.toNat - 0) + 1)) (((ap (ap (l69.take (n52 + i54.toNat)) (rp (n53 - i54.toNat) (da [(di 0), (di 0), (di 0), (di 0)]))) (l69.drop ((n52 + i54.toNat) + (n53 - i54.toNat)))).drop (n52 + 0)).take (i54.toNat - 0))).drop 0).take (((i74.toNat - 0) + 1) + (((ap (ap (l69.take (n52 + i54.toNat)) (rp (n53 - i54.toNat) (da [(di 0), (di 0), (di 0), (di 0)]))) (l69.drop ((n52 + i54.toNat) + (n53 - i54.toNat)))).drop (n52 + 0)).take (i54.toNat - 0)).length))), (d56.at 1)])) none) none) none) none))) | .e1 d37 d38 b39 l40 b41 l42 d43 d44 d45 b46 l47 d48 b49 l50 => (cond (mx ((i74.toNat - 0) + 1)) (cond (mx (((i74.toNat - 0) + 1) + ((l50.drop 0).take r130.elems.length).length)) (some (da [(dl ((b46 || true) || (!((l50.drop 0).take r130.elems.length).isEmpty)) (((ap (((ap ((l47.drop (n72 + 0)).take (i74.toNat - 0)) [d43]).drop 0).take ((i74.toNat - 0) + 1)) ((l50.drop 0).take r130.elems.length)).drop 0).take (((i74.toNat - 0) + 1) + ((l50.drop 0).take r130.elems.length).length))), (d37.at 1)])) none) none))) none) none) none))) | .e1 d20 d21 b22 l23 b24 l25 d26 d27 d28 b29 l30 => (cond ((leI 0 i4) && (leI i4 (nI (p0.at 0).elems.length)) && (leI (nI (p0.at 0).elems.length) (nI (p0.at 0).elems.length)) && (leI (nI (p0.at 0).elems.length) (nI (p0.at 0).elems.length))) (bd (F49.s FUEL (dl (p0.at 0).nn (((p0.at 0).elems.drop i4.toNat).take ((p0.at 0).elems.length - i4.toNat)))) fun r131 => (goS (st36_2_8_9 M) M ⟨0, r131.elems.length, (nI r131.elems.length), 0, d20, d21, b22, l23, b24, l25, d26, d27, d28, b29, l30, r131.nn, r131.elems⟩ fun x => match x with | .e0 n91 i94 d95 d96 b97 l98 b99 l100 d101 d102 d103 b104 l105 b106 l107 => (cond (eqI i94 (-1)) (cond (mx (r128.elems.length + 1)) (cond (mx ((r128.elems.length + 1) + ((l107.drop 0).take r131.elems.length).length)) (some (da [(dl ((b104 || true) || (!((l107.drop 0).take r131.elems.length).isEmpty)) (((ap (((ap ((l105.drop 0).take r128.elems.length) [d101]).drop 0).take (r128.elems.length + 1)) ((l107.drop 0).take r131.elems.length)).drop 0).take ((r128.elems.length + 1) + ((l107.drop 0).take r131.elems.length).length))), (d95.at 1)])) none) none) (goS (st48_5_9_9 M) M ⟨0, r131.elems.length, i94, (ad .i64 i94 1), d95, d96, b97, l98, b99, l100, d101, d102, d103, b104, l105, b106, l107, (ix l107 (n91 + i94.toNat))⟩ fun x => match x with | .e0 n109 n110 i111 d113 d114 b115 l116 b117 l118 d119 d120 d121 b122 l123 b124 l125 d126 => (cond ((leI 0 i111) && (leI i111 (nI n110)) && (leN (n109 + n110) l125.length)) (cond (true && (leI 0 i111) && (leN (n109 + i111.toNat) (ap (ap (l125.take (n109 + i111.toNat)) (rp (n110 - i111.toNat) (da [(di 0), (di 0), (di 0), (di 0)]))) (l125.drop ((n109 + i111.toNat) + (n110 - i111.toNat)))).length)) (cond (mx (r128.elems.length + 1)) (cond (mx ((r128.elems.length + 1) + (((ap (ap (l125.take (n109 + i111.toNat)) (rp (n110 - i111.toNat) (da [(di 0), (di 0), (di 0), (di 0)]))) (l125.drop ((n109 + i111.toNat) + (n110 - i111.toNat)))).drop (n109 + 0)).take (i111.toNat - 0)).length)) (some (da [(dl ((b122 || true) || (!(((ap (ap (l125.take (n109 + i111.toNat)) (rp (n110 - i111.toNat) (da [(di 0), (di 0), (di 0), (di 0)]))) (l125.drop ((n109 + i111.toNat) + (n110 - i111.toNat)))).drop (n109 + 0)).take (i111.toNat - 0)).isEmpty)) (((ap (((ap ((l123.drop 0).take r128.elems.length) [d119]).drop 0).take (r128.elems.length + 1)) (((ap (ap (l125.take (n109 + i111.toNat)) (rp (n110 - i111.toNat) (da [(di 0), (di 0), (di 0), (di 0)]))) (l125.drop ((n109 + i111.toNat) + (n110 - i111.toNat)))).drop (n109 + 0)).take (i111.toNat - 0))).drop 0).take ((r128.elems.length + 1) + (((ap (ap (l125.take (n109 + i111.toNat)) (rp (n110 - i111.toNat) (da [(di 0), (di 0), (di 0), (di 0)]))) (l125.drop ((n109 + i111.toNat) + (n110 - i111.toNat)))).drop (n109 + 0)).take (i111.toNat - 0)).length))), (d113.at 1)])) none) none) none) none))) | .e1 d95 d96 b97 l98 b99 l100 d101 d102 d103 b104 l105 b106 l107 => (cond (mx (r128.elems.length + 1)) (cond (mx ((r128.elems.length + 1) + ((l107.drop 0).take r131.elems.length).length)) (some (da [(dl ((b104 || true) || (!((l107.drop 0).take r131.elems.length).isEmpty)) (((ap (((ap ((l105.drop 0).take r128.elems.length) [d101]).drop 0).take (r128.elems.length + 1)) ((l107.drop 0).take r131.elems.length)).drop 0).take ((r128.elems.length + 1) + ((l107.drop 0).take r131.elems.length).length))), (d95.at 1)])) none) none))) none))) none)) | .e1 d5 d6 b7 l8 b9 l10 d11 d12 => (cond (true && (leI 0 (nI (p0.at 0).elems.length)) && (leI (nI (p0.at 0).elems.length) (nI (p0.at 0).elems.length)) && (leI (nI (p0.at 0).elems.length) (nI (p0.at 0).elems.length))) (bd (F49.s FUEL (dl (p0.at 0).nn (((p0.at 0).elems.drop 0).take ((p0.at 0).elems.length - 0)))) fun r132 => (goS (st36_2_8_7 M) M ⟨0, r132.elems.length, (nI r132.elems.length), 0, d5, d6, b7, l8, b9, l10, d11, d12, r132.nn, r132.elems⟩ fun x => match x with | .e0 n133 i136 d137 d138 b139 l140 b141 l142 d143 d144 b145 l146 => (cond (eqI i136 (-1)) (cond ((leI 0 (nI (p0.at 0).elems.length)) && (leI (nI (p0.at 0).elems.length) (nI (p0.at 0).elems.length)) && (leI (nI (p0.at 0).elems.length) (nI (p0.at 0).elems.length)) && (leI (nI (p0.at 0).elems.length) (nI (p0.at 0).elems.length))) (bd (F49.s FUEL (dl (p0.at 0).nn (((p0.at 0).elems.drop (p0.at 0).elems.length).take ((p0.at 0).elems.length - (p0.at 0).elems.length)))) fun r148 => (goS (st36_2_8_9_w2 M) M ⟨0, r148.elems.length, (nI r148.elems.length), 0, d137, d138, b139, l140, b141, l142, d143, d144, b145, l146, (ix l146 (n133 + i136.toNat)), r148.nn, r148.elems⟩ fun x => match x with | .e0 n149 i152 d153 d154 b155 l156 b157 l158 d159 d160 b161 l162 d163 b164 l165 => (cond (eqI i152 (-1)) (cond (mx (r132.elems.length + 1)) (cond (mx ((r132.elems.length + 1) + ((l165.drop 0).take r148.elems.length).length)) (some (da [(dl ((b161 || true) || (!((l165.drop 0).take r148.elems.length).isEmpty)) (((ap (((ap ((l162.drop 0).take r132.elems.length) [d159]).drop 0).take (r132.elems.length + 1)) ((l165.drop 0).take r148.elems.length)).drop 0).take ((r132.elems.length + 1) + ((l165.drop 0).take r148.elems.length).length))), (d153.at 1)])) none) none) (goS (st48_5_9_9_w2 M) M ⟨0, r148.elems.length, i152, (ad .i64 i152 1), d153, d154, b155, l156, b157, l158, d159, d160, b161, l162, d163, b164, l165, (ix l165 (n149 + i152.toNat))⟩ fun x => match x with | .e0 n167 n168 i169 d171 d172 b173 l174 b175 l176 d177 d178 b179 l180 d181 b182 l183 d184 => (cond ((leI 0 i169) && (leI i169 (nI n168)) && (leN (n167 + n168) l183.length)) (cond (true && (leI 0 i169) && (leN (n167 + i169.toNat) (ap (ap (l183.take (n167 + i169.toNat)) (rp (n168 - i169.toNat) (da [(di 0), (di 0), (di 0), (di 0)]))) (l183.drop ((n167 + i169.toNat) + (n168 - i169.toNat)))).length)) (cond (mx (r132.elems.length + 1)) (cond (mx ((r132.elems.length + 1) + (((ap (ap (l183.take (n167 + i169.toNat)) (rp (n168 - i169.toNat) (da [(di 0), (di 0), (di 0), (di 0)]))) (l183.drop ((n167 + i169.toNat) + (n168 - i169.toNat)))).drop (n167 + 0)).take (i169.toNat - 0)).length)) (some (da [(dl ((b179 || true) || (!(((ap (ap (l183.take (n167 + i169.toNat)) (rp (n168 - i169.toNat) (da [(di 0), (di 0), (di 0), (di 0)]))) (l183.drop ((n167 + i169.toNat) + (n168 - i169.toNat)))).drop (n167 + 0)).take (i169.toNat - 0)).isEmpty)) (((ap (((ap ((l180.drop 0).take r132.elems.length) [d177]).drop 0).take (r132.elems.length + 1)) (((ap (ap (l183.take (n167 + i169.toNat)) (rp (n168 - i169.toNat) (da [(di 0), (di 0), (di 0), (di 0)]))) (l183.drop ((n167 + i169.toNat) + (n168 - i169.toNat)))).drop (n167 + 0)).take (i169.toNat - 0))).drop 0).take ((r132.elems.length + 1) + (((ap (ap (l183.take (n167 + i169.toNat)) (rp (n168 - i169.toNat) (da [(di 0), (di 0), (di 0), (di 0)]))) (l183.drop ((n167 + i169.toNat) + (n168 - i169.toNat)))).drop (n167 + 0)).take (i169.toNat - 0)).length))), (d171.at 1)])) none) none) none) none))) | .e1 d153 d154 b155 l156 b157 l158 d159 d160 b161 l162 d163 b164 l165 => (cond (mx (r132.elems.length + 1)) (cond (mx ((r132.elems.length + 1) + ((l165.drop 0).take r148.elems.length).length)) (some (da [(dl ((b161 || true) || (!((l165.drop 0).take r148.elems.length).isEmpty)) (((ap (((ap ((l162.drop 0).take r132.elems.length) [d159]).drop 0).take (r132.elems.length + 1)) ((l165.drop 0).take r148.elems.length)).drop 0).take ((r132.elems.length + 1) + ((l165.drop 0).take r148.elems.length).length))), (d153.at 1)])) none) none))) none) (goS (st48_5_9_7 M) M ⟨0, r132.elems.length, i136, (ad .i64 i136 1), d137, d138, b139, l140, b141, l142, d143, d144, b145, l146, (ix l146 (n133 + i136.toNat))⟩ fun x => match x with | .e0 n186 n187 i188 d190 d191 b192 l193 b194 l195 d196 d197 b198 l199 d200 => (cond ((leI 0 i188) && (leI i188 (nI n187)) && (leN (n186 + n187) l199.length)) (cond (true && (leI 0 i188) && (leN (n186 + i188.toNat) (ap (ap (l199.take (n186 + i188.toNat)) (rp (n187 - i188.toNat) (da [(di 0), (di 0), (di 0), (di 0)]))) (l199.drop ((n186 + i188.toNat) + (n187 - i188.toNat)))).length)) (cond ((leI 0 (nI (p0.at 0).elems.length)) && (leI (nI (p0.at 0).elems.length) (nI (p0.at 0).elems.length)) && (leI (nI (p0.at 0).elems.length) (nI (p0.at 0).elems.length)) && (leI (nI (p0.at 0).elems.length) (nI (p0.at 0).elems.length))) (bd (F49.s FUEL (dl (p0.at 0).nn (((p0.at 0).elems.drop (p0.at 0).elems.length).take ((p0.at 0).elems.length - (p0.at 0).elems.length)))) fun r202 => (goS (st36_2_8_9_w2 M) M ⟨0, r202.elems.length, (nI r202.elems.length), 0, d190, d191, b192, l193, b194, l195, d196, d197, b198, (ap (ap (l199.take (n186 + i188.toNat)) (rp (n187 - i188.toNat) (da [(di 0), (di 0), (di 0), (di 0)]))) (l199.drop ((n186 + i188.toNat) + (n187 - i188.toNat)))), d200, r202.nn, r202.elems⟩ fun x => match x with | .e0 n149 i152 d153 d154 b155 l156 b157 l158 d159 d160 b161 l162 d163 b164 l165 => (cond (eqI i152 (-1)) (cond (mx ((i188.toNat - 0) + 1)) (cond (mx (((i188.toNat - 0) + 1) + ((l165.drop 0).take r202.elems.length).length)) (some (da [(dl ((b161 || true) || (!((l165.drop 0).take r202.elems.length).isEmpty)) (((ap (((ap ((l162.drop (n186 + 0)).take (i188.toNat - 0)) [d159]).drop 0).take ((i188.toNat - 0) + 1)) ((l165.drop 0).take r202.elems.length)).drop 0).take (((i188.toNat - 0) + 1) + ((l165.drop 0).take r202.elems.length).length))), (d153.at 1)])) none) none) (goS (st48_5_9_9_w2 M) M ⟨0, r202.elems.length, i152, (ad .i64 i152 1), d153, d154, b155, l156, b157, l158, d159, d160, b161, l162, d163, b164, l165, (ix l165 (n149 + i152.toNat))⟩ fun x => match x with | .e0 n167 n168 i169 d171 d172 b173 l174 b175 l176 d177 d178 b179 l180 d181 b182 l183 d184 => (cond ((leI 0 i169) && (leI i169 (nI n168)) && (leN (n167 + n168) l183.length)) (cond (true && (leI 0 i169) && (leN (n167 + i169.toNat) (ap (ap (l183.take (n167 + i169.toNat)) (rp (n168 - i169.toNat) (da [(di 0), (di 0), (di 0), (di 0)]))) (l183.drop ((n167 + i169.toNat) + (n168 - i169.toNat)))).length)) (cond (mx ((i188.toNat - 0) + 1)) (cond (mx (((i188.toNat - 0) + 1) + (((ap (ap (l183.take (n167 + i169.toNat)) (rp (n168 - i169.toNat) (da [(di 0), (di 0), (di 0), (di 0)]))) (l183.drop ((n167 + i169.toNat) + (n168 - i169.toNat)))).drop (n167 + 0)).take (i169.toNat - 0)).length)) (some (da [(dl ((b179 || true) || (!(((ap (ap (l183.take (n167 + i169.toNat)) (rp (n168 - i169.toNat) (da [(di 0), (di 0), (di 0), (di 0)]))) (l183.drop ((n167 + i169.toNat) + (n168 - i169.toNat)))).drop (n167 + 0)).take (i169.toNat - 0)).isEmpty)) (((ap (((ap ((l180.drop (n186 + 0)).take (i188.toNat - 0)) [d177]).drop 0).take ((i188.toNat - 0) + 1)) (((ap (ap (l183.take (n167 + i169.toNat)) (rp (n168 - i169.toNat) (da [(di 0), (di 0), (di 0), (di 0)]))) (l183.drop ((n167 + i169.toNat) + (n168 - i169.toNat)))).drop (n167 + 0)).take (i169.toNat - 0))).drop 0).take (((i188.toNat - 0) + 1) + (((ap (ap (l183.take (n167 + i169.toNat)) (rp (n168 - i169.toNat) (da [(di 0), (di 0), (di 0), (di 0)]))) (l183.drop ((n167 + i169.toNat) + (n168 - i169.toNat)))).drop (n167 + 0)).take (i169.toNat - 0)).length))), (d171.at 1)])) none) none) none) none))) | .e1 d153 d154 b155 l156 b157 l158 d159 d160 b161 l162 d163 b164 l165 => (cond (mx ((i188.toNat - 0) + 1)) (cond (mx (((i188.toNat - 0) + 1) + ((l165.drop 0).take r202.elems.length).length)) (some (da [(dl ((b161 || true) || (!((l165.drop 0).take r202.elems.length).isEmpty)) (((ap (((ap ((l162.drop (n186 + 0)).take (i188.toNat - 0)) [d159]).drop 0).take ((i188.toNat - 0) + 1)) ((l165.drop 0).take r202.elems.length)).drop 0).take (((i188.toNat - 0) + 1) + ((l165.drop 0).take r202.elems.length).length))), (d153.at 1)])) none) none))) none) none) none))) | .e1 d137 d138 b139 l140 b141 l142 d143 d144 b145 l146 => (cond ((leI 0 (nI (p0.at 0).elems.length)) && (leI (nI (p0.at 0).elems.length) (nI (p0.at 0).elems.length)) && (leI (nI (p0.at 0).elems.length) (nI (p0.at 0).elems.length)) && (leI (nI (p0.at 0).elems.length) (nI (p0.at 0).elems.length))) (bd (F49.s FUEL (dl (p0.at 0).nn (((p0.at 0).elems.drop (p0.at 0).elems.length).take ((p0.at 0).elems.length - (p0.at 0).elems.length)))) fun r203 => (goS (st36_2_8_8_w2 M) M ⟨0, r203.elems.length, (nI r203.elems.length), 0, d137, d138, b139, l140, b141, l142, d143, d144, b145, l146, r203.nn, r203.elems⟩ fun x => match x with | .e0 n204 i207 d208 d209 b210 l211 b212 l213 d214 d215 b216 l217 b218 l219 => (cond (eqI i207 (-1)) (cond (mx (r132.elems.length + 1)) (cond (mx ((r132.elems.length + 1) + ((l219.drop 0).take r203.elems.length).length)) (some (da [(dl ((b216 || true) || (!((l219.drop 0).take r203.elems.length).isEmpty)) (((ap (((ap ((l217.drop 0).take r132.elems.length) [d214]).drop 0).take (r132.elems.length + 1)) ((l219.drop 0).take r203.elems.length)).drop 0).take ((r132.elems.length + 1) + ((l219.drop 0).take r203.elems.length).length))), (d208.at 1)])) none) none) (goS (st48_5_9_8_w2 M) M ⟨0, r203.elems.length, i207, (ad .i64 i207 1), d208, d209, b210, l211, b212, l213, d214, d215, b216, l217, b218, l219, (ix l219 (n204 + i207.toNat))⟩ fun x => match x with | .e0 n221 n222 i223 d225 d226 b227 l228 b229 l230 d231 d232 b233 l234 b235 l236 d237 => (cond ((leI 0 i223) && (leI i223 (nI n222)) && (leN (n221 + n222) l236.length)) (cond (true && (leI 0 i223) && (leN (n221 + i223.toNat) (ap (ap (l236.take (n221 + i223.toNat)) (rp (n222 - i223.toNat) (da [(di 0), (di 0), (di 0), (di 0)]))) (l236.drop ((n221 + i223.toNat) + (n222 - i223.toNat)))).length)) (cond (mx (r132.elems.length + 1)) (cond (mx ((r132.elems.length + 1) + (((ap (ap (l236.take (n221 + i223.toNat)) (rp (n222 - i223.toNat) (da [(di 0), (di 0), (di 0), (di 0)]))) (l236.drop ((n221 + i223.toNat) + (n222 - i223.toNat)))).drop (n221 + 0)).take (i223.toNat - 0)).length)) (some (da [(dl ((b233 || true) || (!(((ap (ap (l236.take (n221 + i223.toNat)) (rp (n222 - i223.toNat) (da [(di 0), (di 0), (di 0), (di 0)]))) (l236.drop ((n221 + i223.toNat) + (n222 - i223.toNat)))).drop (n221 + 0)).take (i223.toNat - 0)).isEmpty)) (((ap (((ap ((l234.drop 0).take r132.elems.length) [d231]).drop 0).take (r132.elems.length + 1)) (((ap (ap (l236.take (n221 + i223.toNat)) (rp (n222 - i223.toNat) (da [(di 0), (di 0), (di 0), (di 0)]))) (l236.drop ((n221 + i223.toNat) + (n222 - i223.toNat)))).drop (n221 + 0)).take (i223.toNat - 0))).drop 0).take ((r132.elems.length + 1) + (((ap (ap (l236.take (n221 + i223.toNat)) (rp (n222 - i223.toNat) (da [(di 0), (di 0), (di 0), (di 0)]))) (l236.drop ((n221 + i223.toNat) + (n222 - i223.toNat)))).drop (n221 + 0)).take (i223.toNat - 0)).length))), (d225.at 1)])) none) none) none) none))) | .e1 d208 d209 b210 l211 b212 l213 d214 d215 b216 l217 b218 l219 => (cond (mx (r132.elems.length + 1)) (cond (mx ((r132.elems.length + 1) + ((l219.drop 0).take r203.elems.length).length)) (some (da [(dl ((b216 || true) || (!((l219.drop 0).take r203.elems.length).isEmpty)) (((ap (((ap ((l217.drop 0).take r132.elems.length) [d214]).drop 0).take (r132.elems.length + 1)) ((l219.drop 0).take r203.elems.length)).drop 0).take ((r132.elems.length + 1) + ((l219.drop 0).take r203.elems.length).length))), (d208.at 1)])) none) none))) none))) none)))
theorem run (M : Nat) (p0 : D) (p1 : D) : callS (e M) (tblOf (t M)) 12 (.fn 21) [.d (.struct [23, 24]) p0, .d (.struct [3, 3, 3, 3]) p1] [] (fun v H => finish ty [26] v H) = s M p0 p1 := by kernel_rfl
def c : Con := { run := fun ds => match ds with | [p0, p1] => s FUEL p0 p1 | _ => none }
theorem ok : ConOk (21, c) := mkC Try.f21 [(.struct [23, 24]), (.struct [3, 3, 3, 3])] [26] (by kernel_rfl) (by kernel_rfl) (by kernel_rfl) (by kernel_rfl) (allCons F34.ok (allCons F46.ok (allCons F49.ok allNil))) allNil (t_ok FUEL) fun a => run FUEL a.1 a.2.1
end F21
namespace F68
def cons : List (Nat × Con) := []
def exts : List (Nat × Ext) := []
def h : List (Nat × Nat × Hint) := []
noncomputable def e (M : Nat) : Env := env cons exts h M
def s (M : Nat) (p0 : Int) (p1 : Int) : Option D :=
  (cond (geI p0 0) (some (db (leI p0 p1))) (some (db false)))
theorem run (M : Nat) (p0 : Int) (p1 : Int) : callS (e M) (tblOf []) 12 (.fn 68) [.d (.int .i64) (di p0), .d (.int .i64) (di p1)] [] (fun v H => finish ty [4] v H) = s M p0 p1 := by kernel_rfl
def c : Con := { run := fun ds => match ds with | [p0, p1] => s FUEL p0.i p1.i | _ => none, plain := true }
theorem ok : ConOk (68, c) := mkC Try.f68 [(.int .i64), (.int .i64)] [4] (by kernel_rfl) (by kernel_rfl) (by kernel_rfl) (by kernel_rfl) allNil allNil AllOk.nil fun a => run FUEL a.1 a.2.1
end F68
namespace F67
def cons : List (Nat × Con) := [(68, F68.c)]
def exts : List (Nat × Ext) := []
def h : List (Nat × Nat × Hint) := []
noncomputable def e (M : Nat) : Env := env cons exts h M
def s (M : Nat) (p0 : D) : Option D :=
  (bd (F68.s FUEL (p0.at 0).i 1099511627776) fun r1 => (cond (!r1.b) (some (db true)) (bd (F68.s FUEL (p0.at 1).i 1099511627776) fun r2 => (cond (!r2.b) (some (db true)) (bd (F68.s FUEL (p0.at 2).i 63) fun r3 => (cond (!r3.b) (some (db true)) (bd (F68.s FUEL (p0.at 3).i 31) fun r4 => (some (db (!r4.b))))))))))
theorem run (M : Nat) (p0 : D) : callS (e M) (tblOf []) 12 (.fn 67) [.d (.struct [3, 3, 3, 3]) p0] [] (fun v H => finish ty [4] v H) = s M p0 := by kernel_rfl
def c : Con := { run := fun ds => match ds with | [p0] => s FUEL p0 | _ => none, plain := true }
theorem ok : ConOk (67, c) := mkC Try.f67 [(.struct [3, 3, 3, 3])] [4] (by kernel_rfl) (by kernel_rfl) (by kernel_rfl) (by kernel_rfl) (allCons F68.ok allNil) allNil AllOk.nil fun a => run FUEL a.1
end F67
namespace F69
def cons : List (Nat × Con) := [(68, F68.c)]
def exts : List (Nat × Ext) := []
def h : List (Nat × Nat × Hint) := []
noncomputable def e (M : Nat) : Env := env cons exts h M
def s (M : Nat) (p0 : Int) : Option D :=
  (bd (F68.s FUEL p0 1099511627776) fun r1 => (some (db (!r1.b))))
theorem run (M : Nat) (p0 : Int) : callS (e M) (tblOf []) 12 (.fn 69) [.d (.int .i64) (di p0)] [] (fun v H => finish ty [4] v H) = s M p0 := by kernel_rfl
def c : Con := { run := fun ds => match ds with | [p0] => s FUEL p0.i | _ => none, plain := true }
theorem ok : ConOk (69, c) := mkC Try.f69 [(.int .i64)] [4] (by kernel_rfl) (by kernel_rfl) (by kernel_rfl) (by kernel_rfl) (allCons F68.ok allNil) allNil AllOk.nil fun a => run FUEL a.1
end F69
namespace F73
def cons : List (Nat × Con) := []
def exts : List (Nat × Ext) := []
def h : List (Nat × Nat × Hint) := []
noncomputable def e (M : Nat) : Env := env cons exts h M
def s (M : Nat) (p0 : Int) : Option D :=
  (some (di p0))
theorem run (M : Nat) (p0 : Int) : callS (e M) (tblOf []) 12 (.fn 73) [.d (.int .i64) (di p0)] [] (fun v H => finish ty [3] v H) = s M p0 := by kernel_rfl
def c : Con := { run := fun ds => match ds with | [p0] => s FUEL p0.i | _ => none, plain := true }
theorem ok : ConOk (73, c) := mkC Try.f73 [(.int .i64)] [3] (by kernel_rfl) (by kernel_rfl) (by kernel_rfl) (by kernel_rfl) allNil allNil AllOk.nil fun a => run FUEL a.1
end F73
namespace F41
def k0_ : K := (.struct [23, 24])
def cons : List (Nat × Con) := [(34, F34.c), (67, F67.c), (69, F69.c), (73, F73.c)]
def exts : List (Nat × Ext) := []
def h : List (Nat × Nat × Hint) := [(36, 2, { live := [0, 1, 7, 8], out := some [4] }), (55, 2, { live := [0, 1, 7, 8], out := some [4] }), (71, 2, { live := [0, 1, 7, 8], out := some [4] }), (72, 2, { live := [0, 1, 7, 8], out := some [4] })]
def q0_ : PO := (.var k0_ (.d k0_ .x))
noncomputable def e (M : Nat) : Env := env cons exts h M
structure S36_2 where
  (d1 : D) (i2 i3 : Int) (d4 : D)
inductive X36_2 where
  | e0 (i3 : Int) (d4 : D)
  | e1 (d4 : D)
def st36_2 (M : Nat) : S36_2 → (S36_2 → Option D) → (X36_2 → Option D) → Option D
  | ⟨d1, i2, i3, d4⟩, rec, K => (cond (ltI i3 i2) (cond (inb i3 d1.elems.length) (bd (F67.s FUEL (ix d1.elems i3.toNat)) fun r5 => (cond r5.b (K (.e0 i3 d4)) (rec ⟨d1, i2, (ad .i64 i3 1), d4⟩))) none) (K (.e1 d4)))
def ex36_2 (k : Kont) : X36_2 → Option D
  | .e0 i3 d4 => k .ret ((us 4 ((vi i3) :: (us 14 [])))) [(.var k0_ (vk k0_ d4))]
  | .e1 d4 => k (.exit 0) ((us 19 [])) [(.var k0_ (vk k0_ d4))]
def lv36_2 : S36_2 → List Leaf
  | ⟨d1, i2, i3, d4⟩ => [.d d1, .i i2, .i i3, .d d4]
def of36_2 : List Leaf → Option S36_2
  | [.d d1, .i i2, .i i3, .d d4] => some ⟨d1, i2, i3, d4⟩
  | _ => none
def ps36_2 : List PV := ((.d (.slice 58) .x) :: (.d .func (.fn 67)) :: (up 5 ((.d (.int .i64) (.int .i64)) :: (.d (.int .i64) (.int .i64)) :: (up 10 []))))
def qs36_2 : List PO := [q0_]
noncomputable def t1 (M : Nat) : List Ent := ⟨36, 9, 1, 2, sumS [0, 1, 7, 8] ps36_2 qs36_2 [] of36_2 (st36_2 M) ex36_2 M⟩ :: []
theorem t1_ok (M : Nat) : AllOk (e M) (tblOf (t1 M)) := AllOk.addS (n0 := 1) (lv := lv36_2) AllOk.nil (by kernel_rfl) rfl (by intro ls s h; unfold of36_2 at h; (repeat' split at h) <;> simp at h; subst h; rfl) (by intro s; kernel_rfl) (by intro s; kernel_rfl) (by intro s nx k; kernel_rfl)
structure S55_2 where
  (d6 : D) (i7 i8 : Int) (d9 : D)
inductive X55_2 where
  | e0 (i8 : Int) (d9 : D)
  | e1 (d9 : D)
def st55_2 (M : Nat) : S55_2 → (S55_2 → Option D) → (X55_2 → Option D) → Option D
  | ⟨d6, i7, i8, d9⟩, rec, K => (cond (ltI i8 i7) (cond (inb i8 d6.elems.length) (bd (F69.s FUEL (ix d6.elems i8.toNat).i) fun r10 => (cond r10.b (K (.e0 i8 d9)) (rec ⟨d6, i7, (ad .i64 i8 1), d9⟩))) none) (K (.e1 d9)))
def ex55_2 (k : Kont) : X55_2 → Option D
  | .e0 i8 d9 => k .ret ((us 4 ((vi i8) :: (us 14 [])))) [(.var k0_ (vk k0_ d9))]
  | .e1 d9 => k (.exit 0) ((us 19 [])) [(.var k0_ (vk k0_ d9))]
def lv55_2 : S55_2 → List Leaf
  | ⟨d6, i7, i8, d9⟩ => [.d d6, .i i7, .i i8, .d d9]
def of55_2 : List Leaf → Option S55_2
  | [.d d6, .i i7, .i i8, .d d9] => some ⟨d6, i7, i8, d9⟩
  | _ => none
def ps55_2 : List PV := ((.d (.slice 3) .x) :: (.d .func (.fn 69)) :: (up 5 ((.d (.int .i64) (.int .i64)) :: (.d (.int .i64) (.int .i64)) :: (up 10 []))))
def qs55_2 : List PO := [q0_]
noncomputable def t2 (M : Nat) : List Ent := ⟨55, 9, 1, 2, sumS [0, 1, 7, 8] ps55_2 qs55_2 [] of55_2 (st55_2 M) ex55_2 M⟩ :: t1 M
theorem t2_ok (M : Nat) : AllOk (e M) (tblOf (t2 M)) := AllOk.addS (n0 := 1) (lv := lv55_2) (t1_ok M) (by kernel_rfl) rfl (by intro ls s h; unfold of55_2 at h; (repeat' split at h) <;> simp at h; subst h; rfl) (by intro s; kernel_rfl) (by intro s; kernel_rfl) (by intro s nx k; kernel_rfl)
structure S71_2 where
  (d11 : D) (i12 i13 : Int) (d14 : D)
inductive X71_2 where
  | e0 (d14 : D)
  | e1 (d14 : D)
def st71_2 (M : Nat) : S71_2 → (S71_2 → Option D) → (X71_2 → Option D) → Option D
  | ⟨d11, i12, i13, d14⟩, rec, K => (cond (ltI i13 i12) (cond (gtI i13 0) (cond (inb (sb .i64 i13 1) d11.elems.length) (bd (F34.s FUEL (ix d11.elems (sb .i64 i13 1).toNat)) fun r15 => (cond (inb i13 d11.elems.length) (bd (F34.s FUEL (ix d11.elems i13.toNat)) fun r16 => (cond (geI r15.i r16.i) (K (.e0 d14)) (rec ⟨d11, i12, (ad .i64 i13 1), d14⟩))) none)) none) (rec ⟨d11, i12, (ad .i64 i13 1), d14⟩)) (K (.e1 d14)))
def ex71_2 (k : Kont) : X71_2 → Option D
  | .e0 d14 => k .ret ((us 4 ((vb false) :: (us 25 [])))) [(.var k0_ (vk k0_ d14))]
  | .e1 d14 => k (.exit 0) ((us 30 [])) [(.var k0_ (vk k0_ d14))]
def lv71_2 : S71_2 → List Leaf
  | ⟨d11, i12, i13, d14⟩ => [.d d11, .i i12, .i i13, .d d14]
def of71_2 : List Leaf → Option S71_2
  | [.d d11, .i i12, .i i13, .d d14] => some ⟨d11, i12, i13, d14⟩
  | _ => none
def ps71_2 : List PV := ((.d (.slice 58) .x) :: (.d .func (.fn 34)) :: (up 5 ((.d (.int .i64) (.int .i64)) :: (.d (.int .i64) (.int .i64)) :: (up 21 []))))
def qs71_2 : List PO := [q0_]
noncomputable def t3 (M : Nat) : List Ent := ⟨71, 10, 1, 2, sumS [0, 1, 7, 8] ps71_2 qs71_2 [] of71_2 (st71_2 M) ex71_2 M⟩ :: t2 M
theorem t3_ok (M : Nat) : AllOk (e M) (tblOf (t3 M)) := AllOk.addS (n0 := 1) (lv := lv71_2) (t2_ok M) (by kernel_rfl) rfl (by intro ls s h; unfold of71_2 at h; (repeat' split at h) <;> simp at h; subst h; rfl) (by intro s; kernel_rfl) (by intro s; kernel_rfl) (by intro s nx k; kernel_rfl)
structure S72_2 where
  (d17 : D) (i18 i19 : Int) (d20 : D)
inductive X72_2 where
  | e0 (d20 : D)
  | e1 (d20 : D)
def st72_2 (M : Nat) : S72_2 → (S72_2 → Option D) → (X72_2 → Option D) → Option D
  | ⟨d17, i18, i19, d20⟩, rec, K => (cond (ltI i19 i18) (cond (gtI i19 0) (cond (inb (sb .i64 i19 1) d17.elems.length) (bd (F73.s FUEL (ix d17.elems (sb .i64 i19 1).toNat).i) fun r21 => (cond (inb i19 d17.elems.length) (bd (F73.s FUEL (ix d17.elems i19.toNat).i) fun r22 => (cond (geI r21.i r22.i) (K (.e0 d20)) (rec ⟨d17, i18, (ad .i64 i19 1), d20⟩))) none)) none) (rec ⟨d17, i18, (ad .i64 i19 1), d20⟩)) (K (.e1 d20)))
def ex72_2 (k : Kont) : X72_2 → Option D
  | .e0 d20 => k .ret ((us 4 ((vb false) :: (us 25 [])))) [(.var k0_ (vk k0_ d20))]
  | .e1 d20 => k (.exit 0) ((us 30 [])) [(.var k0_ (vk k0_ d20))]
def lv72_2 : S72_2 → List Leaf
  | ⟨d17, i18, i19, d20⟩ => [.d d17, .i i18, .i i19, .d d20]
def of72_2 : List Leaf → Option S72_2
  | [.d d17, .i i18, .i i19, .d d20] => some ⟨d17, i18, i19, d20⟩
  | _ => none
def ps72_2 : List PV := ((.d (.slice 3) .x) :: (.d .func (.fn 73)) :: (up 5 ((.d (.int .i64) (.int .i64)) :: (.d (.int .i64) (.int .i64)) :: (up 21 []))))
def qs72_2 : List PO := [q0_]
noncomputable def t (M : Nat) : List Ent := ⟨72, 10, 1, 2, sumS [0, 1, 7, 8] ps72_2 qs72_2 [] of72_2 (st72_2 M) ex72_2 M⟩ :: t3 M
theorem t_ok (M : Nat) : AllOk (e M) (tblOf (t M)) := AllOk.addS (n0 := 1) (lv := lv72_2) (t3_ok M) (by kernel_rfl) rfl (by intro ls s h; unfold of72_2 at h; (repeat' split at h) <;> simp at h; subst h; rfl) (by intro s; kernel_rfl) (by intro s; kernel_rfl) (by intro s nx k; kernel_rfl)
def s (M : Nat) (p0 : D) : Option D :=
  (cond (leI (nI (p0.at 0).elems.length) 400) (cond (leI (nI (p0.at 1).elems.length) 100) (goS (st36_2 M) M ⟨(p0.at 0), (nI (p0.at 0).elems.length), 0, p0⟩ fun x => match x with | .e0 i3 d4 => (cond (!(geI i3 0)) (goS (st55_2 M) M ⟨(d4.at 1), (nI (d4.at 1).elems.length), 0, d4⟩ fun x => match x with | .e0 i8 d9 => (cond (!(geI i8 0)) (goS (st71_2 M) M ⟨(d9.at 0), (nI (d9.at 0).elems.length), 0, d9⟩ fun x => match x with | .e0 d14 => (some (db false)) | .e1 d14 => (goS (st72_2 M) M ⟨(d14.at 1), (nI (d14.at 1).elems.length), 0, d14⟩ fun x => match x with | .e0 d20 => (some (db false)) | .e1 d20 => (some (db true)))) (some (db false))) | .e1 d9 => (goS (st71_2 M) M ⟨(d9.at 0), (nI (d9.at 0).elems.length), 0, d9⟩ fun x => match x with | .e0 d14 => (some (db false)) | .e1 d14 => (goS (st72_2 M) M ⟨(d14.at 1), (nI (d14.at 1).elems.length), 0, d14⟩ fun x => match x with | .e0 d20 => (some (db false)) | .e1 d20 => (some (db true))))) (some (db false))) | .e1 d4 => (goS (st55_2 M) M ⟨(d4.at 1), (nI (d4.at 1).elems.length), 0, d4⟩ fun x => match x with | .e0 i8 d9 => (cond (!(geI i8 0)) (goS (st71_2 M) M ⟨(d9.at 0), (nI (d9.at 0).elems.length), 0, d9⟩ fun x => match x with | .e0 d14 => (some (db false)) | .e1 d14 => (goS (st72_2 M) M ⟨(d14.at 1), (nI (d14.at 1).elems.length), 0, d14⟩ fun x => match x with | .e0 d20 => (some (db false)) | .e1 d20 => (some (db true)))) (some (db false))) | .e1 d9 => (goS (st71_2 M) M ⟨(d9.at 0), (nI (d9.at 0).elems.length), 0, d9⟩ fun x => match x with | .e0 d14 => (some (db false)) | .e1 d14 => (goS (st72_2 M) M ⟨(d14.at 1), (nI (d14.at 1).elems.length), 0, d14⟩ fun x => match x with | .e0 d20 => (some (db false)) | .e1 d20 => (some (db true)))))) (some (db false))) (some (db false)))
theorem run (M : Nat) (p0 : D) : callS (e M) (tblOf (t M)) 12 (.fn 41) [.d (.struct [23, 24]) p0] [] (fun v H => finish ty [4] v H) = s M p0 := by kernel_rfl
def c : Con := { run := fun ds => match ds with | [p0] => s FUEL p0 | _ => none, plain := true }
theorem ok : ConOk (41, c) := mkC Try.f41 [(.struct [23, 24])] [4] (by kernel_rfl) (by kernel_rfl) (by kernel_rfl) (by kernel_rfl) (allCons F34.ok (allCons F67.ok (allCons F69.ok (allCons F73.ok allNil)))) allNil (t_ok FUEL) fun a => run FUEL a.1
end F41
namespace F44
def cons : List (Nat × Con) := []
def exts : List (Nat × Ext) := []
def h : List (Nat × Nat × Hint) := [(44, 3, { live := [0, 3], rows := [(3, 5)], out := some [0, 3] })]
noncomputable def e (M : Nat) : Env := env cons exts h M
structure S3 where
  (i1 : Int) (n2 n3 : Nat) (b4 : Bool) (l5 : List D)
inductive X3 where
  | e0 (i1 : Int) (n2 n3 : Nat) (b4 : Bool) (l5 : List D)
def st3 (M : Nat) : S3 → (S3 → Option D) → (X3 → Option D) → Option D
  | ⟨i1, n2, n3, b4, l5⟩, rec, K => (cond (geI i1 128) (cond (mx (n3 + 1)) (rec ⟨(shrI .i64 i1 7), 0, (n3 + 1), (b4 || true), (ap ((l5.drop n2).take n3) [(D.int .u8 (orI .u8 (cv .u8 i1) 128))])⟩) none) (K (.e0 i1 n2 n3 b4 l5)))
def ex3 (k : Kont) : X3 → Option D
  | .e0 i1 n2 n3 b4 l5 => k (.exit 0) ((vi i1) :: (us 2 ((.sref 0 n2 n3) :: (us 19 [])))) [(.row 5 true b4 l5)]
def lv3 : S3 → List Leaf
  | ⟨i1, n2, n3, b4, l5⟩ => [.i i1, .n n2, .n n3, .b b4, .l l5]
def of3 : List Leaf → Option S3
  | [.i i1, .n n2, .n n3, .b b4, .l l5] => some ⟨i1, n2, n3, b4, l5⟩
  | _ => none
def ps3 : List PV := ((.d (.int .i64) (.int .i64)) :: (up 2 ((.sref 0) :: (up 19 []))))
def qs3 : List PO := [(.row 5 true)]
noncomputable def t (M : Nat) : List Ent := ⟨44, 11, 0, 3, sumS [0, 3] ps3 qs3 [(3, 0)] of3 (st3 M) ex3 M⟩ :: []
theorem t_ok (M : Nat) : AllOk (e M) (tblOf (t M)) := AllOk.addS (n0 := 1) (lv := lv3) AllOk.nil (by kernel_rfl) rfl (by intro ls s h; unfold of3 at h; (repeat' split at h) <;> simp at h; subst h; rfl) (by intro s; kernel_rfl) (by intro s; kernel_rfl) (by intro s nx k; kernel_rfl)
def s (M : Nat) (p0 : Int) : Option D :=
  (goS (st3 M) M ⟨(mini (maxi p0 0) 1125899906842624), 0, 0, false, []⟩ fun x => match x with | .e0 i1 n2 n3 b4 l5 => (cond (mx (n3 + 1)) (some (dS (ofBytes (((ap ((l5.drop n2).take n3) [(D.int .u8 (cv .u8 i1))]).drop 0).take (n3 + 1))))) none))
theorem run (M : Nat) (p0 : Int) : callS (e M) (tblOf (t M)) 12 (.fn 44) [.d (.int .i64) (di p0)] [] (fun v H => finish ty [9] v H) = s M p0 := by kernel_rfl
def c : Con := { run := fun ds => match ds with | [p0] => s FUEL p0.i | _ => none, plain := true }
theorem ok : ConOk (44, c) := mkC Try.f44 [(.int .i64)] [9] (by kernel_rfl) (by kernel_rfl) (by kernel_rfl) (by kernel_rfl) allNil allNil (t_ok FUEL) fun a => run FUEL a.1
end F44
namespace F42
def k0_ : K := (.struct [125, 126])
def k1_ : K := (.struct [23, 24])
def cons : List (Nat × Con) := [(44, F44.c)]
def exts : List (Nat × Ext) := [(75, stringX (.struct [125, 126])), (85, copyCheckX (.struct [125, 126]) 5)]
def h : List (Nat × Nat × Hint) := [(42, 1, { own := true }), (42, 3, { live := [1, 3, 14, 15, 16], rows := [(3, 3)], out := some [1, 3] }), (42, 5, { own := true }), (42, 7, { own := true }), (42, 10, { live := [6, 41, 42, 43], rows := [(1056773, 5)], out := some [6] })]
def q0_ : PO := (.var k1_ (.d k1_ .x))
noncomputable def e (M : Nat) : Env := env cons exts h M
structure S3 where
  (n1 n2 : Nat) (d3 : D) (i4 i5 : Int) (d6 : D) (b7 : Bool) (l8 : List D)
inductive X3 where
  | e0 (n1 n2 : Nat) (d6 : D) (b7 : Bool) (l8 : List D)
def st3 (M : Nat) : S3 → (S3 → Option D) → (X3 → Option D) → Option D
  | ⟨n1, n2, d3, i4, i5, d6, b7, l8⟩, rec, K => (cond (ltI i5 i4) (cond (inb i5 d3.elems.length) (cond (mx (n2 + 4)) (rec ⟨0, (n2 + 4), d3, i4, (ad .i64 i5 1), d6, (b7 || true), (ap ((l8.drop n1).take n2) [((ix d3.elems i5.toNat).at 0), ((ix d3.elems i5.toNat).at 1), ((ix d3.elems i5.toNat).at 2), ((ix d3.elems i5.toNat).at 3)])⟩) none) none) (K (.e0 n1 n2 d6 b7 l8)))
def ex3 (k : Kont) : X3 → Option D
  | .e0 n1 n2 d6 b7 l8 => k (.exit 0) ((us 1 ((.ptr 0 [] k1_) :: (us 1 ((.sref 1 n1 n2) :: (us 48 [])))))) [(.var k1_ (vk k1_ d6)), (.row 3 true b7 l8)]
def lv3 : S3 → List Leaf
  | ⟨n1, n2, d3, i4, i5, d6, b7, l8⟩ => [.n n1, .n n2, .d d3, .i i4, .i i5, .d d6, .b b7, .l l8]
def of3 : List Leaf → Option S3
  | [.n n1, .n n2, .d d3, .i i4, .i i5, .d d6, .b b7, .l l8] => some ⟨n1, n2, d3, i4, i5, d6, b7, l8⟩
  | _ => none
def ps3 : List PV := ((up 1 ((.ptr 0 [] k1_) :: (up 1 ((.sref 1) :: (up 10 ((.d (.slice 58) .x) :: (.d (.int .i64) (.int .i64)) :: (.d (.int .i64) (.int .i64)) :: (up 35 []))))))))
def qs3 : List PO := [q0_, (.row 3 true)]
noncomputable def t1 (M : Nat) : List Ent := ⟨42, 11, 0, 3, sumS [1, 3, 14, 15, 16] ps3 qs3 [(3, 1)] of3 (st3 M) ex3 M⟩ :: []
theorem t1_ok (M : Nat) : AllOk (e M) (tblOf (t1 M)) := AllOk.addS (n0 := 2) (lv := lv3) AllOk.nil (by kernel_rfl) rfl (by intro ls s h; unfold of3 at h; (repeat' split at h) <;> simp at h; subst h; rfl) (by intro s; kernel_rfl) (by intro s; kernel_rfl) (by intro s nx k; kernel_rfl)
inductive S10 where
  | s0 (n23 n24 : Nat) (i25 i26 : Int) (d27 : D) (b28 : Bool) (l29 : List D) (b30 : Bool) (l31 : List D) (n32 n33 : Nat) (b34 : Bool) (l35 : List D)
  | s1 (n36 n37 : Nat) (i38 i39 : Int) (d40 : D) (b41 : Bool) (l42 : List D) (b43 : Bool) (l44 : List D) (n45 n46 : Nat) (b47 : Bool) (l48 : List D)
inductive X10 where
  | e0 (d27 : D) (b28 : Bool) (l29 : List D) (b30 : Bool) (l31 : List D) (n32 n33 : Nat) (b34 : Bool) (l35 : List D)
  | e1 (d40 : D) (b41 : Bool) (l42 : List D) (b43 : Bool) (l44 : List D) (n45 n46 : Nat) (b47 : Bool) (l48 : List D)
def st10 (M : Nat) : S10 → (S10 → Option D) → (X10 → Option D) → Option D
  | .s0 n23 n24 i25 i26 d27 b28 l29 b30 l31 n32 n33 b34 l35, rec, K => (cond (ltI i26 i25) (cond (inb i26 n24) (bd (F44.s FUEL (ix l31 (n23 + i26.toNat)).i) fun r49 => (cond (mx (n33 + (bytesOf r49.s).length)) (rec (.s1 n23 n24 i25 (ad .i64 i26 1) d27 b28 l29 b30 l31 0 (n33 + (bytesOf r49.s).length) (b34 || (!(bytesOf r49.s).isEmpty)) (ap ((l35.drop n32).take n33) (bytesOf r49.s)))) none)) none) (K (.e0 d27 b28 l29 b30 l31 n32 n33 b34 l35)))
  | .s1 n36 n37 i38 i39 d40 b41 l42 b43 l44 n45 n46 b47 l48, rec, K => (cond (ltI i39 i38) (cond (inb i39 n37) (bd (F44.s FUEL (ix l44 (n36 + i39.toNat)).i) fun r50 => (cond (mx (n46 + (bytesOf r50.s).length)) (rec (.s1 n36 n37 i38 (ad .i64 i39 1) d40 b41 l42 b43 l44 0 (n46 + (bytesOf r50.s).length) (b47 || (!(bytesOf r50.s).isEmpty)) (ap ((l48.drop n45).take n46) (bytesOf r50.s)))) none)) none) (K (.e1 d40 b41 l42 b43 l44 n45 n46 b47 l48)))
def ex10 (k : Kont) : X10 → Option D
  | .e0 d27 b28 l29 b30 l31 n32 n33 b34 l35 => k (.exit 2) ((us 6 ((.ptr 5 [] k0_) :: (us 45 [])))) [(.var k1_ (vk k1_ d27)), .dead, (.row 3 true b28 l29), .dead, (.row 3 true b30 l31), (.var k0_ (.agg k0_ [(vk (.ptr 128) D.nilPtr), (.sref 6 n32 n33)])), (.row 5 true b34 l35)]
  | .e1 d40 b41 l42 b43 l44 n45 n46 b47 l48 => k (.exit 2) ((us 6 ((.ptr 5 [] k0_) :: (us 45 [])))) [(.var k1_ (vk k1_ d40)), .dead, (.row 3 true b41 l42), .dead, (.row 3 true b43 l44), (.var k0_ (.agg k0_ [(.ptr 5 [] k0_), (.sref 6 n45 n46)])), (.row 5 true b47 l48)]
def of10_0 : List Leaf → Option S10
  | [.n n23, .n n24, .i i25, .i i26, .d d27, .b b28, .l l29, .b b30, .l l31, .n n32, .n n33, .b b34, .l l35] => some (.s0 n23 n24 i25 i26 d27 b28 l29 b30 l31 n32 n33 b34 l35)
  | _ => none
def ps10_0 : List PV := ((up 6 ((.ptr 5 [] k0_) :: (up 34 ((.sref 4) :: (.d (.int .i64) (.int .i64)) :: (.d (.int .i64) (.int .i64)) :: (up 8 []))))))
def qs10_0 : List PO := [q0_, .dead, (.row 3 true), .dead, (.row 3 true), (.var k0_ (.agg k0_ [(.d (.ptr 128) .nilPtr), (.sref 6)])), (.row 5 true)]
def of10_1 : List Leaf → Option S10
  | [.n n36, .n n37, .i i38, .i i39, .d d40, .b b41, .l l42, .b b43, .l l44, .n n45, .n n46, .b b47, .l l48] => some (.s1 n36 n37 i38 i39 d40 b41 l42 b43 l44 n45 n46 b47 l48)
  | _ => none
def ps10_1 : List PV := ((up 6 ((.ptr 5 [] k0_) :: (up 34 ((.sref 4) :: (.d (.int .i64) (.int .i64)) :: (.d (.int .i64) (.int .i64)) :: (up 8 []))))))
def qs10_1 : List PO := [q0_, .dead, (.row 3 true), .dead, (.row 3 true), (.var k0_ (.agg k0_ [(.ptr 5 [] k0_), (.sref 6)])), (.row 5 true)]
def vv10 : S10 → List V × List AObj
  | .s0 n23 n24 i25 i26 d27 b28 l29 b30 l31 n32 n33 b34 l35 => ((fillVs ps10_0 [.n n23, .n n24, .i i25, .i i26, .d d27, .b b28, .l l29, .b b30, .l l31, .n n32, .n n33, .b b34, .l l35]).1, (fillOs qs10_0 (fillVs ps10_0 [.n n23, .n n24, .i i25, .i i26, .d d27, .b b28, .l l29, .b b30, .l l31, .n n32, .n n33, .b b34, .l l35]).2).1)
  | .s1 n36 n37 i38 i39 d40 b41 l42 b43 l44 n45 n46 b47 l48 => ((fillVs ps10_1 [.n n36, .n n37, .i i38, .i i39, .d d40, .b b41, .l l42, .b b43, .l l44, .n n45, .n n46, .b b47, .l l48]).1, (fillOs qs10_1 (fillVs ps10_1 [.n n36, .n n37, .i i38, .i i39, .d d40, .b b41, .l l42, .b b43, .l l44, .n n45, .n n46, .b b47, .l l48]).2).1)
noncomputable def su10 (M : Nat) : Sum := sumJ [6, 41, 42, 43] [⟨ps10_0, qs10_0, of10_0⟩, ⟨ps10_1, qs10_1, of10_1⟩] [(1056773, 6)] (st10 M) ex10 M noSum
noncomputable def t (M : Nat) : List Ent := ⟨42, 11, 0, 10, su10 M⟩ :: t1 M
theorem t_ok (M : Nat) : AllOk (e M) (tblOf (t M)) := AllOk.addJ (n0 := 7) (t1_ok M) (fun s => (vv10 s).1) (fun s => (vv10 s).2) (by kernel_rfl) rfl (.inl rfl) ⟨by intro ls s h; replace h : of10_0 ls = some s := h; unfold of10_0 at h; (repeat' split at h) <;> simp at h; subst h; exact ⟨by kernel_rfl, by kernel_rfl⟩, by intro ls s h; replace h : of10_1 ls = some s := h; unfold of10_1 at h; (repeat' split at h) <;> simp at h; subst h; exact ⟨by kernel_rfl, by kernel_rfl⟩, trivial⟩ (by intro s; cases s <;> kernel_rfl) (by intro s; cases s <;> kernel_rfl) (by intro s nx k; cases s <;> kernel_rfl)
def s (M : Nat) (p0 : D) : Option D :=
  (goS (st3 M) M ⟨0, 1, (p0.at 0), (nI (p0.at 0).elems.length), 0, p0, true, [(di (nI (p0.at 0).elems.length))]⟩ fun x => match x with | .e0 n1 n2 d6 b7 l8 => (cond (mx (n2 + 1)) (cond (mx ((n2 + 1) + (d6.at 1).elems.length)) (goS (st10 M) M (.s0 0 ((n2 + 1) + (d6.at 1).elems.length) (nI ((n2 + 1) + (d6.at 1).elems.length)) 0 d6 true [(di (nI (d6.at 1).elems.length))] ((b7 || true) || (!(d6.at 1).elems.isEmpty)) (ap (((ap ((l8.drop n1).take n2) [(di (nI (d6.at 1).elems.length))]).drop 0).take (n2 + 1)) (d6.at 1).elems) 0 0 false []) fun x => match x with | .e0 d27 b28 l29 b30 l31 n32 n33 b34 l35 => (cond (true && ((bif b34 then (decide (0 < n33)) else true) && (mx n33))) (some (dS (ofBytes ((l35.drop n32).take n33)))) none) | .e1 d40 b41 l42 b43 l44 n45 n46 b47 l48 => (cond (true && ((bif b47 then (decide (0 < n46)) else true) && (mx n46))) (some (dS (ofBytes ((l48.drop n45).take n46)))) none)) none) none))
theorem run (M : Nat) (p0 : D) : callS (e M) (tblOf (t M)) 12 (.fn 42) [.d (.struct [23, 24]) p0] [] (fun v H => finish ty [9] v H) = s M p0 := by kernel_rfl
def c : Con := { run := fun ds => match ds with | [p0] => s FUEL p0 | _ => none, plain := true }
theorem ok : ConOk (42, c) := mkC Try.f42 [(.struct [23, 24])] [9] (by kernel_rfl) (by kernel_rfl) (by kernel_rfl) (by kernel_rfl) (allCons F44.ok allNil) (allCons string_ok (allCons copyCheck_ok allNil)) (t_ok FUEL) fun a => run FUEL a.1
end F42
namespace F30
def k0_ : K := (.struct [23, 24])
def cons : List (Nat × Con) := [(41, F41.c), (42, F42.c), (44, F44.c)]
def exts : List (Nat × Ext) := []
def h : List (Nat × Nat × Hint) := [(30, 10, { live := [7, 8] }), (76, 1, { live := [0, 1, 2, 4], rows := [(1048578, 9)], out := some [] })]
noncomputable def e (M : Nat) : Env := env cons exts h M
structure S76_1 where
  (i4 : Int) (d5 d6 : D) (n7 n8 : Nat) (d9 : D) (i10 : Int) (b11 : Bool) (l12 : List D)
inductive X76_1 where
  | e0 (d5 d6 : D) (n7 n8 : Nat) (d9 : D) (i10 : Int) (b11 : Bool) (l12 : List D)
def st76_1 (M : Nat) : S76_1 → (S76_1 → Option D) → (X76_1 → Option D) → Option D
  | ⟨i4, d5, d6, n7, n8, d9, i10, b11, l12⟩, rec, K => (cond (gtI (nI d9.s.size) 0) (cond (true && (leI 0 (mini i10 (nI d9.s.size))) && (leI (mini i10 (nI d9.s.size)) (nI d9.s.size)) && (leI (nI d9.s.size) (nI d9.s.size))) (cond ((leI 0 (nI (d9.s.extract 0 (mini i10 (nI d9.s.size)).toNat).size)) && (leI (nI (d9.s.extract 0 (mini i10 (nI d9.s.size)).toNat).size) (nI d9.s.size)) && (leI (nI d9.s.size) (nI d9.s.size)) && (leI (nI d9.s.size) (nI d9.s.size))) (bd (F44.s FUEL i4) fun r13 => (bd (F44.s FUEL d6.i) fun r14 => (bd (cat r13.s r14.s) fun r15 => (bd (cat r15.s (d9.s.extract 0 (mini i10 (nI d9.s.size)).toNat)) fun r16 => (cond (mx (n8 + 1)) (rec ⟨(ad .i64 i4 1), d5, d6, 0, (n8 + 1), (dS (d9.s.extract (d9.s.extract 0 (mini i10 (nI d9.s.size)).toNat).size d9.s.size)), i10, (b11 || true), (ap ((l12.drop n7).take n8) [r16])⟩) none))))) none) none) (K (.e0 d5 d6 n7 n8 d9 i10 b11 l12)))
def ex76_1 (k : Kont) : X76_1 → Option D
  | .e0 d5 d6 n7 n8 d9 i10 b11 l12 => k (.exit 0) ((us 26 [])) [(.var k0_ (vk k0_ d5)), (.var (.int .i64) (vk (.int .i64) d6)), (.var (.slice 9) (.sref 6 n7 n8)), (.var .str (vk .str d9)), (.var (.int .i64) (vi i10)), (.loop .ready 30 10 (.tup ((us 7 ((.ptr 1 [] (.int .i64)) :: (.ptr 2 [] (.slice 9)) :: (us 40 [])))))), (.row 9 true b11 l12)]
def lv76_1 : S76_1 → List Leaf
  | ⟨i4, d5, d6, n7, n8, d9, i10, b11, l12⟩ => [.i i4, .d d5, .d d6, .n n7, .n n8, .d d9, .i i10, .b b11, .l l12]
def of76_1 : List Leaf → Option S76_1
  | [.i i4, .d d5, .d d6, .n n7, .n n8, .d d9, .i i10, .b b11, .l l12] => some ⟨i4, d5, d6, n7, n8, d9, i10, b11, l12⟩
  | _ => none
def ps76_1 : List PV := ((.yield 5) :: (.ptr 3 [] .str) :: (.ptr 4 [] (.int .i64)) :: (up 1 ((.d (.int .i64) (.int .i64)) :: (up 21 []))))
def qs76_1 : List PO := [(.var k0_ (.d k0_ .x)), (.var (.int .i64) (.d (.int .i64) .x)), (.var (.slice 9) (.sref 6)), (.var .str (.d .str .x)), (.var (.int .i64) (.d (.int .i64) (.int .i64))), (.loop false 30 10 (.tup ((up 7 ((.ptr 1 [] (.int .i64)) :: (.ptr 2 [] (.slice 9)) :: (up 40 [])))))), (.row 9 true)]
noncomputable def t (M : Nat) : List Ent := ⟨76, 10, 6, 1, sumS [0, 1, 2, 4] ps76_1 qs76_1 [(1048578, 6)] of76_1 (st76_1 M) ex76_1 M⟩ :: []
theorem t_ok (M : Nat) : AllOk (e M) (tblOf (t M)) := AllOk.addS (n0 := 7) (lv := lv76_1) AllOk.nil (by kernel_rfl) rfl (by intro ls s h; unfold of76_1 at h; (repeat' split at h) <;> simp at h; subst h; rfl) (by intro s; kernel_rfl) (by intro s; kernel_rfl) (by intro s nx k; kernel_rfl)
def s (M : Nat) (p0 : D) (p1 : Int) : Option D :=
  (bd (F41.s FUEL p0) fun r1 => (cond (!r1.b) (some (.slice false [])) (cond (ltI p1 8) (some (.slice false [])) (cond (gtI p1 224) (some (.slice false [])) (bd (F42.s FUEL p0) fun r2 => (bd (if (sb .i64 p1 6) = 0 then none else some (.int .i64 (quoI .i64 (sb .i64 (ad .i64 (nI r2.s.size) (sb .i64 p1 6)) 1) (sb .i64 p1 6)))) fun r3 => (goS (st76_1 M) M ⟨0, p0, r3, 0, 0, r2, (sb .i64 p1 6), false, []⟩ fun x => match x with | .e0 d5 d6 n7 n8 d9 i10 b11 l12 => (cond ((decide (n8 = l12.length)) && (decide (n7 = 0))) (some (.slice b11 l12)) none))))))))
theorem run (M : Nat) (p0 : D) (p1 : Int) : callS (e M) (tblOf (t M)) 12 (.fn 30) [.d (.struct [23, 24]) p0, .d (.int .i64) (di p1)] [] (fun v H => finishFresh ty [76] v H) = s M p0 p1 := by kernel_rfl
def c : Con := { run := fun ds => match ds with | [p0, p1] => s FUEL p0 p1.i | _ => none, fresh := true }
theorem ok : ConOk (30, c) := mkF Try.f30 [(.struct [23, 24]), (.int .i64)] [76] (by kernel_rfl) (by kernel_rfl) (by kernel_rfl) (allCons F41.ok (allCons F42.ok (allCons F44.ok allNil))) allNil (t_ok FUEL) fun a => run FUEL a.1 a.2.1
end F30
namespace F19
def k0_ : K := (.struct [23, 24])
def cons : List (Nat × Con) := [(30, F30.c)]
def exts : List (Nat × Ext) := []
def h : List (Nat × Nat × Hint) := [(19, 4, { live := [1, 2, 9, 10, 11], rows := [(9, 45)], out := some [9] })]
noncomputable def e (M : Nat) : Env := env cons exts h M
structure S4 where
  (i2 i3 : Int) (n4 n5 n6 n7 : Nat) (i8 : Int) (d9 : D) (b10 : Bool) (l11 : List D) (b12 : Bool) (l13 : List D)
inductive X4 where
  | e0 (n4 n5 : Nat) (d9 : D) (b10 : Bool) (l11 : List D) (b12 : Bool) (l13 : List D)
def st4 (M : Nat) : S4 → (S4 → Option D) → (X4 → Option D) → Option D
  | ⟨i2, i3, n4, n5, n6, n7, i8, d9, b10, l11, b12, l13⟩, rec, K => (cond (ltI i8 (nI n7)) (cond (inb i8 n7) (cond (mx (n5 + 1)) (rec ⟨i2, i3, 0, (n5 + 1), n6, n7, (ad .i64 i8 1), d9, b10, l11, (b12 || true), (ap ((l13.drop n4).take n5) [(da [(di i3), (di i8), (da [(di 1), (di i2), (di 0), (di i8), (ix l11 (n6 + i8.toNat))])])])⟩) none) none) (K (.e0 n4 n5 d9 b10 l11 b12 l13)))
def ex4 (k : Kont) : X4 → Option D
  | .e0 n4 n5 d9 b10 l11 b12 l13 => k (.exit 0) ((us 9 ((.sref 2 n4 n5) :: (us 25 [])))) [(.var k0_ (vk k0_ d9)), (.row 9 true b10 l11), (.row 45 true b12 l13)]
def lv4 : S4 → List Leaf
  | ⟨i2, i3, n4, n5, n6, n7, i8, d9, b10, l11, b12, l13⟩ => [.i i2, .i i3, .n n4, .n n5, .n n6, .n n7, .i i8, .d d9, .b b10, .l l11, .b b12, .l l13]
def of4 : List Leaf → Option S4
  | [.i i2, .i i3, .n n4, .n n5, .n n6, .n n7, .i i8, .d d9, .b b10, .l l11, .b b12, .l l13] => some ⟨i2, i3, n4, n5, n6, n7, i8, d9, b10, l11, b12, l13⟩
  | _ => none
def ps4 : List PV := ((up 1 ((.d (.int .i64) (.int .i64)) :: (.d (.int .i64) (.int .i64)) :: (up 6 ((.sref 2) :: (.sref 1) :: (.d (.int .i64) (.int .i64)) :: (up 23 []))))))
def qs4 : List PO := [(.var k0_ (.d k0_ .x)), (.row 9 true), (.row 45 true)]
noncomputable def t (M : Nat) : List Ent := ⟨19, 11, 0, 4, sumS [1, 2, 9, 10, 11] ps4 qs4 [(9, 2)] of4 (st4 M) ex4 M⟩ :: []
theorem t_ok (M : Nat) : AllOk (e M) (tblOf (t M)) := AllOk.addS (n0 := 3) (lv := lv4) AllOk.nil (by kernel_rfl) rfl (by intro ls s h; unfold of4 at h; (repeat' split at h) <;> simp at h; subst h; rfl) (by intro s; kernel_rfl) (by intro s; kernel_rfl) (by intro s nx k; kernel_rfl)
def s (M : Nat) (p0 : D) (p1 : Int) (p2 : Int) (p3 : Int) : Option D :=
  (bd (F30.s FUEL p0 p3) fun r1 => (goS (st4 M) M ⟨p1, p2, 0, 0, 0, r1.elems.length, 0, p0, r1.nn, r1.elems, false, []⟩ fun x => match x with | .e0 n4 n5 d9 b10 l11 b12 l13 => (cond ((decide (n5 = l13.length)) && (decide (n4 = 0))) (some (.slice b12 l13)) none)))
theorem run (M : Nat) (p0 : D) (p1 : Int) (p2 : Int) (p3 : Int) : callS (e M) (tblOf (t M)) 12 (.fn 19) [.d (.struct [23, 24]) p0, .d (.int .i64) (di p1), .d (.int .i64) (di p2), .d (.int .i64) (di p3)] [] (fun v H => finishFresh ty [22] v H) = s M p0 p1 p2 p3 := by kernel_rfl
def c : Con := { run := fun ds => match ds with | [p0, p1, p2, p3] => s FUEL p0 p1.i p2.i p3.i | _ => none, fresh := true }
theorem ok : ConOk (19, c) := mkF Try.f19 [(.struct [23, 24]), (.int .i64), (.int .i64), (.int .i64)] [22] (by kernel_rfl) (by kernel_rfl) (by kernel_rfl) (allCons F30.ok allNil) allNil (t_ok FUEL) fun a => run FUEL a.1 a.2.1 a.2.2.1 a.2.2.2.1
end F19
namespace F86
def k0_ : K := (.struct [3, 9, 4])
def cons : List (Nat × Con) := []
def exts : List (Nat × Ext) := []
def h : List (Nat × Nat × Hint) := [(86, 3, { live := [0, 2, 3, 7, 8], out := some [2] })]
noncomputable def e (M : Nat) : Env := env cons exts h M
structure S3 where
  (s1 : ByteArray) (i2 i3 i4 i5 : Int) (s6 : ByteArray) (b7 : Bool)
inductive X3 where
  | e0 (s1 : ByteArray) (i2 i4 : Int) (r8 : D)
  | e1 (s1 : ByteArray) (i2 i4 : Int) (r8 : D)
  | e2 (s1 : ByteArray) (i2 i4 : Int) (r8 : D)
  | e3 (i5 : Int) (s6 : ByteArray) (b7 : Bool)
def st3 (M : Nat) : S3 → (S3 → Option D) → (X3 → Option D) → Option D
  | ⟨s1, i2, i3, i4, i5, s6, b7⟩, rec, K => (cond (ltI i4 i3) (cond (inb i4 s1.size) (bd (if (ml .i64 7 i4) < 0 then none else some (.int .i64 (shlI .i64 (cv .i64 (andI .u8 (byteAt s1 i4.toNat) 127)) (ml .i64 7 i4).toNat))) fun r8 => (cond (inb i4 s1.size) (cond (ltI (byteAt s1 i4.toNat) 128) (cond ((leI 0 (ad .i64 i4 1)) && (leI (ad .i64 i4 1) (nI s1.size)) && (leI (nI s1.size) (nI s1.size)) && (leI (nI s1.size) (nI s1.size))) (cond (leI (orI .i64 i2 r8.i) 1125899906842624) (cond (eqI i4 0) (K (.e0 s1 i2 i4 r8)) (cond (inb i4 s1.size) (K (.e1 s1 i2 i4 r8)) none)) (K (.e2 s1 i2 i4 r8))) none) (rec ⟨s1, (orI .i64 i2 r8.i), i3, (ad .i64 i4 1), i5, s6, b7⟩)) none)) none) (K (.e3 i5 s6 b7)))
def ex3 (k : Kont) : X3 → Option D
  | .e0 s1 i2 i4 r8 => k .ret ((us 2 ((.ptr 0 [] k0_) :: (us 42 [])))) [(.var k0_ (vk k0_ (da [(di (orI .i64 i2 r8.i)), (dS (s1.extract (ad .i64 i4 1).toNat s1.size)), (db true)])))]
  | .e1 s1 i2 i4 r8 => k .ret ((us 2 ((.ptr 0 [] k0_) :: (us 42 [])))) [(.var k0_ (vk k0_ (da [(di (orI .i64 i2 r8.i)), (dS (s1.extract (ad .i64 i4 1).toNat s1.size)), (db (gtI (byteAt s1 i4.toNat) 0))])))]
  | .e2 s1 i2 i4 r8 => k .ret ((us 2 ((.ptr 0 [] k0_) :: (us 42 [])))) [(.var k0_ (vk k0_ (da [(di (orI .i64 i2 r8.i)), (dS (s1.extract (ad .i64 i4 1).toNat s1.size)), (db false)])))]
  | .e3 i5 s6 b7 => k (.exit 0) ((us 2 ((.ptr 0 [] k0_) :: (us 42 [])))) [(.var k0_ (vk k0_ (da [(di i5), (dS s6), (db b7)])))]
def lv3 : S3 → List Leaf
  | ⟨s1, i2, i3, i4, i5, s6, b7⟩ => [.s s1, .i i2, .i i3, .i i4, .i i5, .s s6, .b b7]
def of3 : List Leaf → Option S3
  | [.s s1, .i i2, .i i3, .i i4, .i i5, .s s6, .b b7] => some ⟨s1, i2, i3, i4, i5, s6, b7⟩
  | _ => none
def ps3 : List PV := ((.d .str .str) :: (up 1 ((.ptr 0 [] k0_) :: (.d (.int .i64) (.int .i64)) :: (up 3 ((.d (.int .i64) (.int .i64)) :: (.d (.int .i64) (.int .i64)) :: (up 36 []))))))
def qs3 : List PO := [(.var k0_ (.d k0_ (.agg [(.int .i64), .str, .bool])))]
noncomputable def t (M : Nat) : List Ent := ⟨86, 11, 0, 3, sumS [0, 2, 3, 7, 8] ps3 qs3 [] of3 (st3 M) ex3 M⟩ :: []
theorem t_ok (M : Nat) : AllOk (e M) (tblOf (t M)) := AllOk.addS (n0 := 1) (lv := lv3) AllOk.nil (by kernel_rfl) rfl (by intro ls s h; unfold of3 at h; (repeat' split at h) <;> simp at h; subst h; rfl) (by intro s; kernel_rfl) (by intro s; kernel_rfl) (by intro s nx k; kernel_rfl)
def s (M : Nat) (p0 : ByteArray) : Option D :=
  (goS (st3 M) M ⟨p0, 0, (mini (nI p0.size) 8), 0, 0, (bs []), false⟩ fun x => match x with | .e0 s1 i2 i4 r8 => (some (da [(di (orI .i64 i2 r8.i)), (dS (s1.extract (ad .i64 i4 1).toNat s1.size)), (db true)])) | .e1 s1 i2 i4 r8 => (some (da [(di (orI .i64 i2 r8.i)), (dS (s1.extract (ad .i64 i4 1).toNat s1.size)), (db (gtI (byteAt s1 i4.toNat) 0))])) | .e2 s1 i2 i4 r8 => (some (da [(di (orI .i64 i2 r8.i)), (dS (s1.extract (ad .i64 i4 1).toNat s1.size)), (db false)])) | .e3 i5 s6 b7 => (some (da [(di 0), (dS (bs [])), (db false)])))
theorem run (M : Nat) (p0 : ByteArray) : callS (e M) (tblOf (t M)) 12 (.fn 86) [.d .str (dS p0)] [] (fun v H => finish ty [146] v H) = s M p0 := by kernel_rfl
def c : Con := { run := fun ds => match ds with | [p0] => s FUEL p0.s | _ => none, plain := true }
theorem ok : ConOk (86, c) := mkC Try.f86 [.str] [146] (by kernel_rfl) (by kernel_rfl) (by kernel_rfl) (by kernel_rfl) allNil allNil (t_ok FUEL) fun a => run FUEL a.1
end F86
namespace F87
def cons : List (Nat × Con) := []
def exts : List (Nat × Ext) := []
def h : List (Nat × Nat × Hint) := []
noncomputable def e (M : Nat) : Env := env cons exts h M
def s (M : Nat) (p0 : D) : Option D :=
  (cond (!(p0.at 2).b) (some (D.tup [(di 0), (dS (bs [])), (db false)])) (some (D.tup [(p0.at 0), (p0.at 1), (db true)])))
theorem run (M : Nat) (p0 : D) : callS (e M) (tblOf []) 12 (.fn 87) [.d (.struct [3, 9, 4]) p0] [] (fun v H => finish ty [3, 9, 4] v H) = s M p0 := by kernel_rfl
def c : Con := { run := fun ds => match ds with | [p0] => s FUEL p0 | _ => none, plain := true }
theorem ok : ConOk (87, c) := mkC Try.f87 [(.struct [3, 9, 4])] [3, 9, 4] (by kernel_rfl) (by kernel_rfl) (by kernel_rfl) (by kernel_rfl) allNil allNil AllOk.nil fun a => run FUEL a.1
end F87
namespace F79
def cons : List (Nat × Con) := [(86, F86.c), (87, F87.c)]
def exts : List (Nat × Ext) := []
def h : List (Nat × Nat × Hint) := []
noncomputable def e (M : Nat) : Env := env cons exts h M
def s (M : Nat) (p0 : ByteArray) : Option D :=
  (bd (F86.s FUEL p0) fun r1 => (bd (F87.s FUEL r1) fun r2 => (some (D.tup [(r2.at 0), (r2.at 1), (r2.at 2)]))))
theorem run (M : Nat) (p0 : ByteArray) : callS (e M) (tblOf []) 12 (.fn 79) [.d .str (dS p0)] [] (fun v H => finish ty [3, 9, 4] v H) = s M p0 := by kernel_rfl
def c : Con := { run := fun ds => match ds with | [p0] => s FUEL p0.s | _ => none, plain := true }
theorem ok : ConOk (79, c) := mkC Try.f79 [.str] [3, 9, 4] (by kernel_rfl) (by kernel_rfl) (by kernel_rfl) (by kernel_rfl) (allCons F86.ok (allCons F87.ok allNil)) allNil AllOk.nil fun a => run FUEL a.1
end F79
namespace F78
def cons : List (Nat × Con) := [(79, F79.c)]
def exts : List (Nat × Ext) := []
def h : List (Nat × Nat × Hint) := [(78, 3, { live := [0, 7, 11, 12], rows := [(7, 3)], out := some [0, 4, 5, 6, 7] })]
noncomputable def e (M : Nat) : Env := env cons exts h M
structure S3 where
  (d9 : D) (n10 n11 : Nat) (i12 i13 : Int) (b14 : Bool) (l15 : List D)
inductive X3 where
  | e0 (d9 : D) (n10 n11 : Nat) (b14 : Bool) (l15 : List D)
  | e1 (d9 : D) (n10 n11 : Nat) (b14 : Bool) (l15 : List D)
def st3 (M : Nat) : S3 → (S3 → Option D) → (X3 → Option D) → Option D
  | ⟨d9, n10, n11, i12, i13, b14, l15⟩, rec, K => (cond (ltI i13 i12) (bd (F79.s FUEL d9.s) fun r16 => (cond (!(r16.at 2).b) (K (.e0 d9 n10 n11 b14 l15)) (cond (mx (n11 + 1)) (rec ⟨(r16.at 1), 0, (n11 + 1), i12, (ad .i64 i13 1), (b14 || true), (ap ((l15.drop n10).take n11) [(r16.at 0)])⟩) none))) (K (.e1 d9 n10 n11 b14 l15)))
def ex3 (k : Kont) : X3 → Option D
  | .e0 d9 n10 n11 b14 l15 => k .ret ((vk .str d9) :: (us 3 ((vk (.slice 3) (dl false [])) :: (vS (bs [])) :: (vb false) :: (.sref 0 n10 n11) :: (us 22 [])))) [(.row 3 true b14 l15)]
  | .e1 d9 n10 n11 b14 l15 => k (.exit 0) ((vk .str d9) :: (us 6 ((.sref 0 n10 n11) :: (us 22 [])))) [(.row 3 true b14 l15)]
def lv3 : S3 → List Leaf
  | ⟨d9, n10, n11, i12, i13, b14, l15⟩ => [.d d9, .n n10, .n n11, .i i12, .i i13, .b b14, .l l15]
def of3 : List Leaf → Option S3
  | [.d d9, .n n10, .n n11, .i i12, .i i13, .b b14, .l l15] => some ⟨d9, n10, n11, i12, i13, b14, l15⟩
  | _ => none
def ps3 : List PV := ((.d .str .x) :: (up 6 ((.sref 0) :: (up 3 ((.d (.int .i64) (.int .i64)) :: (.d (.int .i64) (.int .i64)) :: (up 17 []))))))
def qs3 : List PO := [(.row 3 true)]
noncomputable def t (M : Nat) : List Ent := ⟨78, 11, 0, 3, sumS [0, 7, 11, 12] ps3 qs3 [(7, 0)] of3 (st3 M) ex3 M⟩ :: []
theorem t_ok (M : Nat) : AllOk (e M) (tblOf (t M)) := AllOk.addS (n0 := 1) (lv := lv3) AllOk.nil (by kernel_rfl) rfl (by intro ls s h; unfold of3 at h; (repeat' split at h) <;> simp at h; subst h; rfl) (by intro s; kernel_rfl) (by intro s; kernel_rfl) (by intro s nx k; kernel_rfl)
def s (M : Nat) (p0 : ByteArray) (p1 : Int) : Option D :=
  (goS (st3 M) M ⟨(dS p0), 0, 0, p1, 0, false, []⟩ fun x => match x with | .e0 d9 n10 n11 b14 l15 => (some (D.tup [(dl false []), (dS (bs [])), (db false)])) | .e1 d9 n10 n11 b14 l15 => (some (D.tup [(dl b14 ((l15.drop n10).take n11)), d9, (db true)])))
theorem run (M : Nat) (p0 : ByteArray) (p1 : Int) : callS (e M) (tblOf (t M)) 12 (.fn 78) [.d .str (dS p0), .d (.int .i64) (di p1)] [] (fun v H => finish ty [24, 9, 4] v H) = s M p0 p1 := by kernel_rfl
def c : Con := { run := fun ds => match ds with | [p0, p1] => s FUEL p0.s p1.i | _ => none }
theorem ok : ConOk (78, c) := mkC Try.f78 [.str, (.int .i64)] [24, 9, 4] (by kernel_rfl) (by kernel_rfl) (by kernel_rfl) (by kernel_rfl) (allCons F79.ok allNil) allNil (t_ok FUEL) fun a => run FUEL a.1 a.2.1
end F78
namespace F50
def cons : List (Nat × Con) := [(78, F78.c)]
def exts : List (Nat × Ext) := []
def h : List (Nat × Nat × Hint) := [(50, 3, { live := [0, 5, 6, 12, 13, 14], out := some [2, 3, 4, 5, 6] })]
noncomputable def e (M : Nat) : Env := env cons exts h M
structure S3 where
  (d11 d12 : D) (i13 : Int) (d14 : D) (i15 i16 : Int)
inductive X3 where
  | e0 (d12 : D) (i13 : Int)
  | e1 (d12 : D) (i13 : Int)
def st3 (M : Nat) : S3 → (S3 → Option D) → (X3 → Option D) → Option D
  | ⟨d11, d12, i13, d14, i15, i16⟩, rec, K => (cond (ltI i16 i15) (cond (inb i16 d14.elems.length) (bd (F78.s FUEL (ix d14.elems i16.toNat).s 2) fun r17 => (cond (!(r17.at 2).b) (K (.e0 d12 i13)) (cond (inb 0 (r17.at 0).elems.length) (cond (neI (ix (r17.at 0).elems 0).i i16) (K (.e0 d12 i13)) (cond (inb 1 (r17.at 0).elems.length) (cond (neI (ix (r17.at 0).elems 1).i (nI d11.elems.length)) (K (.e0 d12 i13)) (cond (eqI i16 0) (bd (cat d12.s (r17.at 1).s) fun r18 => (rec ⟨d11, r18, (nI (r17.at 1).s.size), d14, i15, (ad .i64 i16 1)⟩)) (cond (gtI (nI (r17.at 1).s.size) i13) (K (.e0 d12 i13)) (cond (eqI (nI (r17.at 1).s.size) 0) (K (.e0 d12 i13)) (cond (ltI i16 (sb .i64 (nI d11.elems.length) 1)) (cond (ltI (nI (r17.at 1).s.size) i13) (K (.e0 d12 i13)) (bd (cat d12.s (r17.at 1).s) fun r19 => (rec ⟨d11, r19, i13, d14, i15, (ad .i64 i16 1)⟩))) (bd (cat d12.s (r17.at 1).s) fun r20 => (rec ⟨d11, r20, i13, d14, i15, (ad .i64 i16 1)⟩))))))) none)) none))) none) (K (.e1 d12 i13)))
def ex3 (k : Kont) : X3 → Option D
  | .e0 d12 i13 => k .ret ((us 2 ((vS (bs [])) :: (vi 0) :: (vb false) :: (vk .str d12) :: (vi i13) :: (us 69 [])))) []
  | .e1 d12 i13 => k (.exit 0) ((us 5 ((vk .str d12) :: (vi i13) :: (us 69 [])))) []
def lv3 : S3 → List Leaf
  | ⟨d11, d12, i13, d14, i15, i16⟩ => [.d d11, .d d12, .i i13, .d d14, .i i15, .i i16]
def of3 : List Leaf → Option S3
  | [.d d11, .d d12, .i i13, .d d14, .i i15, .i i16] => some ⟨d11, d12, i13, d14, i15, i16⟩
  | _ => none
def ps3 : List PV := ((.d (.slice 9) .x) :: (up 4 ((.d .str .x) :: (.d (.int .i64) (.int .i64)) :: (up 5 ((.d (.slice 9) .x) :: (.d (.int .i64) (.int .i64)) :: (.d (.int .i64) (.int .i64)) :: (up 61 []))))))
def qs3 : List PO := []
noncomputable def t (M : Nat) : List Ent := ⟨50, 11, 0, 3, sumS [0, 5, 6, 12, 13, 14] ps3 qs3 [] of3 (st3 M) ex3 M⟩ :: []
theorem t_ok (M : Nat) : AllOk (e M) (tblOf (t M)) := AllOk.addS (n0 := 0) (lv := lv3) AllOk.nil (by kernel_rfl) rfl (by intro ls s h; unfold of3 at h; (repeat' split at h) <;> simp at h; subst h; rfl) (by intro s; kernel_rfl) (by intro s; kernel_rfl) (by intro s nx k; kernel_rfl)
def s (M : Nat) (p0 : D) : Option D :=
  (goS (st3 M) M ⟨p0, (dS (bs [])), 0, p0, (nI p0.elems.length), 0⟩ fun x => match x with | .e0 d12 i13 => (some (D.tup [(dS (bs [])), (di 0), (db false)])) | .e1 d12 i13 => (some (D.tup [d12, (di i13), (db true)])))
theorem run (M : Nat) (p0 : D) : callS (e M) (tblOf (t M)) 12 (.fn 50) [.d (.slice 9) p0] [] (fun v H => finish ty [9, 3, 4] v H) = s M p0 := by kernel_rfl
def c : Con := { run := fun ds => match ds with | [p0] => s FUEL p0 | _ => none, plain := true }
theorem ok : ConOk (50, c) := mkC Try.f50 [(.slice 9)] [9, 3, 4] (by kernel_rfl) (by kernel_rfl) (by kernel_rfl) (by kernel_rfl) (allCons F78.ok allNil) allNil (t_ok FUEL) fun a => run FUEL a.1
end F50
namespace F52
def cons : List (Nat × Con) := []
def exts : List (Nat × Ext) := []
def h : List (Nat × Nat × Hint) := []
noncomputable def e (M : Nat) : Env := env cons exts h M
def s (M : Nat) (p0 : D) : Option D :=
  (cond (inb 0 p0.elems.length) (cond (inb 1 p0.elems.length) (cond (inb 2 p0.elems.length) (cond (inb 3 p0.elems.length) (some (da [(ix p0.elems 0), (ix p0.elems 1), (ix p0.elems 2), (ix p0.elems 3)])) none) none) none) none)
theorem run (M : Nat) (p0 : D) : callS (e M) (tblOf []) 12 (.fn 52) [.d (.slice 3) p0] [] (fun v H => finish ty [58] v H) = s M p0 := by kernel_rfl
def c : Con := { run := fun ds => match ds with | [p0] => s FUEL p0 | _ => none, plain := true }
theorem ok : ConOk (52, c) := mkC Try.f52 [(.slice 3)] [58] (by kernel_rfl) (by kernel_rfl) (by kernel_rfl) (by kernel_rfl) allNil allNil AllOk.nil fun a => run FUEL a.1
end F52
namespace F54
def cons : List (Nat × Con) := []
def exts : List (Nat × Ext) := []
def h : List (Nat × Nat × Hint) := []
noncomputable def e (M : Nat) : Env := env cons exts h M
def s (M : Nat) (p0 : D) : Option D :=
  (cond (inb 0 p0.elems.length) (some (ix p0.elems 0)) none)
theorem run (M : Nat) (p0 : D) : callS (e M) (tblOf []) 12 (.fn 54) [.d (.slice 3) p0] [] (fun v H => finish ty [3] v H) = s M p0 := by kernel_rfl
def c : Con := { run := fun ds => match ds with | [p0] => s FUEL p0 | _ => none, plain := true }
theorem ok : ConOk (54, c) := mkC Try.f54 [(.slice 3)] [3] (by kernel_rfl) (by kernel_rfl) (by kernel_rfl) (by kernel_rfl) allNil allNil AllOk.nil fun a => run FUEL a.1
end F54
namespace F35
def k0_ : K := (.struct [23, 24])
def cons : List (Nat × Con) := [(41, F41.c), (50, F50.c), (52, F52.c), (54, F54.c), (78, F78.c), (79, F79.c)]
def exts : List (Nat × Ext) := []
def h : List (Nat × Nat × Hint) := [(51, 6, { live := [0, 2, 3, 13, 30, 31], rows := [(13, 58)], out := some [0, 8, 9, 10, 13] }), (53, 6, { live := [0, 2, 3, 13, 30, 31], rows := [(13, 3)], out := some [0, 8, 9, 10, 13] })]
def q0_ : PO := (.var k0_ (.d k0_ (.agg [.slice, .slice])))
noncomputable def e (M : Nat) : Env := env cons exts h M
structure S51_6 where
  (d3 : D) (i4 : Int) (n5 n6 : Nat) (d7 : D) (i8 : Int) (b9 : Bool) (l10 : List D) (b11 : Bool) (l12 : List D) (b13 : Bool) (l14 : List D) (b15 : Bool) (l16 : List D) (b17 : Bool) (l18 : List D)
inductive X51_6 where
  | e0 (d3 : D) (n5 n6 : Nat) (b9 : Bool) (l10 : List D) (b11 : Bool) (l12 : List D) (b13 : Bool) (l14 : List D) (b15 : Bool) (l16 : List D) (b17 : Bool) (l18 : List D)
  | e1 (d3 : D) (n5 n6 : Nat) (b9 : Bool) (l10 : List D) (b11 : Bool) (l12 : List D) (b13 : Bool) (l14 : List D) (b15 : Bool) (l16 : List D) (b17 : Bool) (l18 : List D)
def st51_6 (M : Nat) : S51_6 → (S51_6 → Option D) → (X51_6 → Option D) → Option D
  | ⟨d3, i4, n5, n6, d7, i8, b9, l10, b11, l12, b13, l14, b15, l16, b17, l18⟩, rec, K => (cond (ltI i8 d7.i) (bd (F78.s FUEL d3.s i4) fun r19 => (cond (!(r19.at 2).b) (K (.e0 d3 n5 n6 b9 l10 b11 l12 b13 l14 b15 l16 b17 l18)) (bd (F52.s FUEL (r19.at 0)) fun r20 => (cond (mx (n6 + 1)) (rec ⟨(r19.at 1), i4, 0, (n6 + 1), d7, (ad .i64 i8 1), b9, l10, b11, l12, b13, l14, b15, l16, (b17 || true), (ap ((l18.drop n5).take n6) [r20])⟩) none)))) (K (.e1 d3 n5 n6 b9 l10 b11 l12 b13 l14 b15 l16 b17 l18)))
def ex51_6 (k : Kont) : X51_6 → Option D
  | .e0 d3 n5 n6 b9 l10 b11 l12 b13 l14 b15 l16 b17 l18 => k .ret ((vk .str d3) :: (us 7 ((vk (.slice 58) (dl false [])) :: (vS (bs [])) :: (vb false) :: (us 2 ((.sref 2 n5 n6) :: (us 38 [])))))) [(.var k0_ (vk k0_ (da [(dl b9 l10), (dl b11 l12)]))), (.var k0_ (vk k0_ (da [(dl b13 l14), (dl b15 l16)]))), (.row 58 true b17 l18)]
  | .e1 d3 n5 n6 b9 l10 b11 l12 b13 l14 b15 l16 b17 l18 => k (.exit 0) ((vk .str d3) :: (us 12 ((.sref 2 n5 n6) :: (us 38 [])))) [(.var k0_ (vk k0_ (da [(dl b9 l10), (dl b11 l12)]))), (.var k0_ (vk k0_ (da [(dl b13 l14), (dl b15 l16)]))), (.row 58 true b17 l18)]
def lv51_6 : S51_6 → List Leaf
  | ⟨d3, i4, n5, n6, d7, i8, b9, l10, b11, l12, b13, l14, b15, l16, b17, l18⟩ => [.d d3, .i i4, .n n5, .n n6, .d d7, .i i8, .b b9, .l l10, .b b11, .l l12, .b b13, .l l14, .b b15, .l l16, .b b17, .l l18]
def of51_6 : List Leaf → Option S51_6
  | [.d d3, .i i4, .n n5, .n n6, .d d7, .i i8, .b b9, .l l10, .b b11, .l l12, .b b13, .l l14, .b b15, .l l16, .b b17, .l l18] => some ⟨d3, i4, n5, n6, d7, i8, b9, l10, b11, l12, b13, l14, b15, l16, b17, l18⟩
  | _ => none
def ps51_6 : List PV := ((.d .str .x) :: (up 1 ((.d (.int .i64) (.int .i64)) :: (.d .func (.fn 52)) :: (up 9 ((.sref 2) :: (up 16 ((.d (.int .i64) .x) :: (.d (.int .i64) (.int .i64)) :: (up 20 []))))))))
def qs51_6 : List PO := [q0_, q0_, (.row 58 true)]
noncomputable def t1 (M : Nat) : List Ent := ⟨51, 10, 2, 6, sumS [0, 2, 3, 13, 30, 31] ps51_6 qs51_6 [(13, 2)] of51_6 (st51_6 M) ex51_6 M⟩ :: []
theorem t1_ok (M : Nat) : AllOk (e M) (tblOf (t1 M)) := AllOk.addS (n0 := 3) (lv := lv51_6) AllOk.nil (by kernel_rfl) rfl (by intro ls s h; unfold of51_6 at h; (repeat' split at h) <;> simp at h; subst h; rfl) (by intro s; kernel_rfl) (by intro s; kernel_rfl) (by intro s nx k; kernel_rfl)
structure S53_6 where
  (d22 : D) (i23 : Int) (n24 n25 : Nat) (d26 : D) (i27 : Int) (b28 : Bool) (l29 : List D) (b30 : Bool) (l31 : List D) (n32 n33 : Nat) (b34 : Bool) (l35 : List D) (b36 : Bool) (l37 : List D) (b38 : Bool) (l39 : List D)
inductive X53_6 where
  | e0 (d22 : D) (n24 n25 : Nat) (b28 : Bool) (l29 : List D) (b30 : Bool) (l31 : List D) (n32 n33 : Nat) (b34 : Bool) (l35 : List D) (b36 : Bool) (l37 : List D) (b38 : Bool) (l39 : List D)
  | e1 (d22 : D) (n24 n25 : Nat) (b28 : Bool) (l29 : List D) (b30 : Bool) (l31 : List D) (n32 n33 : Nat) (b34 : Bool) (l35 : List D) (b36 : Bool) (l37 : List D) (b38 : Bool) (l39 : List D)
def st53_6 (M : Nat) : S53_6 → (S53_6 → Option D) → (X53_6 → Option D) → Option D
  | ⟨d22, i23, n24, n25, d26, i27, b28, l29, b30, l31, n32, n33, b34, l35, b36, l37, b38, l39⟩, rec, K => (cond (ltI i27 d26.i) (bd (F78.s FUEL d22.s i23) fun r40 => (cond (!(r40.at 2).b) (K (.e0 d22 n24 n25 b28 l29 b30 l31 n32 n33 b34 l35 b36 l37 b38 l39)) (bd (F54.s FUEL (r40.at 0)) fun r41 => (cond (mx (n25 + 1)) (rec ⟨(r40.at 1), i23, 0, (n25 + 1), d26, (ad .i64 i27 1), b28, l29, b30, l31, n32, n33, b34, l35, b36, l37, (b38 || true), (ap ((l39.drop n24).take n25) [r41])⟩) none)))) (K (.e1 d22 n24 n25 b28 l29 b30 l31 n32 n33 b34 l35 b36 l37 b38 l39)))
def ex53_6 (k : Kont) : X53_6 → Option D
  | .e0 d22 n24 n25 b28 l29 b30 l31 n32 n33 b34 l35 b36 l37 b38 l39 => k .ret ((vk .str d22) :: (us 7 ((vk (.slice 3) (dl false [])) :: (vS (bs [])) :: (vb false) :: (us 2 ((.sref 3 n24 n25) :: (us 38 [])))))) [(.var k0_ (vk k0_ (da [(dl b28 l29), (dl b30 l31)]))), (.var k0_ (.agg k0_ [(.sref 2 n32 n33), (vk (.slice 3) (dl b34 l35))])), (.row 58 true b36 l37), (.row 3 true b38 l39)]
  | .e1 d22 n24 n25 b28 l29 b30 l31 n32 n33 b34 l35 b36 l37 b38 l39 => k (.exit 0) ((vk .str d22) :: (us 12 ((.sref 3 n24 n25) :: (us 38 [])))) [(.var k0_ (vk k0_ (da [(dl b28 l29), (dl b30 l31)]))), (.var k0_ (.agg k0_ [(.sref 2 n32 n33), (vk (.slice 3) (dl b34 l35))])), (.row 58 true b36 l37), (.row 3 true b38 l39)]
def lv53_6 : S53_6 → List Leaf
  | ⟨d22, i23, n24, n25, d26, i27, b28, l29, b30, l31, n32, n33, b34, l35, b36, l37, b38, l39⟩ => [.d d22, .i i23, .n n24, .n n25, .d d26, .i i27, .b b28, .l l29, .b b30, .l l31, .n n32, .n n33, .b b34, .l l35, .b b36, .l l37, .b b38, .l l39]
def of53_6 : List Leaf → Option S53_6
  | [.d d22, .i i23, .n n24, .n n25, .d d26, .i i27, .b b28, .l l29, .b b30, .l l31, .n n32, .n n33, .b b34, .l l35, .b b36, .l l37, .b b38, .l l39] => some ⟨d22, i23, n24, n25, d26, i27, b28, l29, b30, l31, n32, n33, b34, l35, b36, l37, b38, l39⟩
  | _ => none
def ps53_6 : List PV := ((.d .str .x) :: (up 1 ((.d (.int .i64) (.int .i64)) :: (.d .func (.fn 54)) :: (up 9 ((.sref 3) :: (up 16 ((.d (.int .i64) .x) :: (.d (.int .i64) (.int .i64)) :: (up 20 []))))))))
def qs53_6 : List PO := [q0_, (.var k0_ (.agg k0_ [(.sref 2), (.d (.slice 3) .slice)])), (.row 58 true), (.row 3 true)]
noncomputable def t (M : Nat) : List Ent := ⟨53, 10, 3, 6, sumS [0, 2, 3, 13, 30, 31] ps53_6 qs53_6 [(13, 3)] of53_6 (st53_6 M) ex53_6 M⟩ :: t1 M
theorem t_ok (M : Nat) : AllOk (e M) (tblOf (t M)) := AllOk.addS (n0 := 4) (lv := lv53_6) (t1_ok M) (by kernel_rfl) rfl (by intro ls s h; unfold of53_6 at h; (repeat' split at h) <;> simp at h; subst h; rfl) (by intro s; kernel_rfl) (by intro s; kernel_rfl) (by intro s nx k; kernel_rfl)
def s (M : Nat) (p0 : D) : Option D :=
  (bd (F50.s FUEL p0) fun r1 => (cond (!(r1.at 2).b) (some (D.tup [(da [(dl false []), (dl false [])]), (db false)])) (cond (gtI (r1.at 1).i 218) (some (D.tup [(da [(dl false []), (dl false [])]), (db false)])) (cond (gtI (nI p0.elems.length) 1) (cond (ltI (r1.at 1).i 2) (some (D.tup [(da [(dl false []), (dl false [])]), (db false)])) (bd (F79.s FUEL (r1.at 0).s) fun r2 => (cond (!(r2.at 2).b) (some (D.tup [(da [(dl false []), (dl false [])]), (db false)])) (cond (gtI (r2.at 0).i 400) (some (D.tup [(da [(dl false []), (dl false [])]), (db false)])) (goS (st51_6 M) M ⟨(r2.at 1), 4, 0, 0, (r2.at 0), 0, false, [], false, [], false, [], false, [], false, []⟩ fun x => match x with | .e0 d3 n5 n6 b9 l10 b11 l12 b13 l14 b15 l16 b17 l18 => (some (D.tup [(da [(dl false []), (dl false [])]), (db false)])) | .e1 d3 n5 n6 b9 l10 b11 l12 b13 l14 b15 l16 b17 l18 => (bd (F79.s FUEL d3.s) fun r21 => (cond (!(r21.at 2).b) (some (D.tup [(da [(dl false []), (dl false [])]), (db false)])) (cond (gtI (r21.at 0).i 100) (some (D.tup [(da [(dl false []), (dl false [])]), (db false)])) (goS (st53_6 M) M ⟨(r21.at 1), 1, 0, 0, (r21.at 0), 0, b9, l10, b11, l12, n5, n6, b15, l16, b17, l18, false, []⟩ fun x => match x with | .e0 d22 n24 n25 b28 l29 b30 l31 n32 n33 b34 l35 b36 l37 b38 l39 => (some (D.tup [(da [(dl false []), (dl false [])]), (db false)])) | .e1 d22 n24 n25 b28 l29 b30 l31 n32 n33 b34 l35 b36 l37 b38 l39 => (cond (!(eqS d22.s (bs []))) (some (D.tup [(da [(dl false []), (dl false [])]), (db false)])) (bd (F41.s FUEL (da [(dl b36 ((l37.drop n32).take n33)), (dl b38 ((l39.drop n24).take n25))])) fun r42 => (cond (!r42.b) (some (D.tup [(da [(dl false []), (dl false [])]), (db false)])) (some (D.tup [(da [(dl b36 ((l37.drop n32).take n33)), (dl b38 ((l39.drop n24).take n25))]), (db true)])))))))))))))) (bd (F79.s FUEL (r1.at 0).s) fun r43 => (cond (!(r43.at 2).b) (some (D.tup [(da [(dl false []), (dl false [])]), (db false)])) (cond (gtI (r43.at 0).i 400) (some (D.tup [(da [(dl false []), (dl false [])]), (db false)])) (goS (st51_6 M) M ⟨(r43.at 1), 4, 0, 0, (r43.at 0), 0, false, [], false, [], false, [], false, [], false, []⟩ fun x => match x with | .e0 d3 n5 n6 b9 l10 b11 l12 b13 l14 b15 l16 b17 l18 => (some (D.tup [(da [(dl false []), (dl false [])]), (db false)])) | .e1 d3 n5 n6 b9 l10 b11 l12 b13 l14 b15 l16 b17 l18 => (bd (F79.s FUEL d3.s) fun r44 => (cond (!(r44.at 2).b) (some (D.tup [(da [(dl false []), (dl false [])]), (db false)])) (cond (gtI (r44.at 0).i 100) (some (D.tup [(da [(dl false []), (dl false [])]), (db false)])) (goS (st53_6 M) M ⟨(r44.at 1), 1, 0, 0, (r44.at 0), 0, b9, l10, b11, l12, n5, n6, b15, l16, b17, l18, false, []⟩ fun x => match x with | .e0 d22 n24 n25 b28 l29 b30 l31 n32 n33 b34 l35 b36 l37 b38 l39 => (some (D.tup [(da [(dl false []), (dl false [])]), (db false)])) | .e1 d22 n24 n25 b28 l29 b30 l31 n32 n33 b34 l35 b36 l37 b38 l39 => (cond (!(eqS d22.s (bs []))) (some (D.tup [(da [(dl false []), (dl false [])]), (db false)])) (bd (F41.s FUEL (da [(dl b36 ((l37.drop n32).take n33)), (dl b38 ((l39.drop n24).take n25))])) fun r45 => (cond (!r45.b) (some (D.tup [(da [(dl false []), (dl false [])]), (db false)])) (some (D.tup [(da [(dl b36 ((l37.drop n32).take n33)), (dl b38 ((l39.drop n24).take n25))]), (db true)])))))))))))))))))
theorem run (M : Nat) (p0 : D) : callS (e M) (tblOf (t M)) 12 (.fn 35) [.d (.slice 9) p0] [] (fun v H => finish ty [26, 4] v H) = s M p0 := by kernel_rfl
def c : Con := { run := fun ds => match ds with | [p0] => s FUEL p0 | _ => none }
theorem ok : ConOk (35, c) := mkC Try.f35 [(.slice 9)] [26, 4] (by kernel_rfl) (by kernel_rfl) (by kernel_rfl) (by kernel_rfl) (allCons F41.ok (allCons F50.ok (allCons F52.ok (allCons F54.ok (allCons F78.ok (allCons F79.ok allNil)))))) allNil (t_ok FUEL) fun a => run FUEL a.1
end F35
namespace F22
def k0_ : K := (.struct [23, 24])
def cons : List (Nat × Con) := [(35, F35.c)]
def exts : List (Nat × Ext) := []
def h : List (Nat × Nat × Hint) := [(22, 3, { live := [1, 4, 7, 20, 21, 22], out := some [4, 7] }), (22, 6, { unk := true }), (22, 8, { unk := true }), (22, 14, { live := [4, 7, 12, 13, 14], rows := [(12, 45), (13, 9)], unk := true, out := some [4, 12, 13] })]
def q0_ : PO := (.var k0_ (.d k0_ (.agg [.slice, .slice])))
noncomputable def e (M : Nat) : Env := env cons exts h M
structure S3 where
  (i1 : Int) (d2 : D) (i3 i4 : Int) (b5 : Bool) (l6 : List D) (b7 : Bool) (l8 : List D) (m9 : List (D × D))
inductive X3 where
  | e0 (b5 : Bool) (l6 : List D) (b7 : Bool) (l8 : List D) (m9 : List (D × D))
def st3 (M : Nat) : S3 → (S3 → Option D) → (X3 → Option D) → Option D
  | ⟨i1, d2, i3, i4, b5, l6, b7, l8, m9⟩, rec, K => (cond (ltI i4 i3) (cond (inb i4 d2.elems.length) (cond (neI (((ix d2.elems i4.toNat).at 2).at 0).i 1) (rec ⟨i1, d2, i3, (ad .i64 i4 1), b5, l6, b7, l8, m9⟩) (cond (neI (((ix d2.elems i4.toNat).at 2).at 1).i i1) (rec ⟨i1, d2, i3, (ad .i64 i4 1), b5, l6, b7, l8, m9⟩) (cond (neI (((ix d2.elems i4.toNat).at 2).at 2).i 0) (rec ⟨i1, d2, i3, (ad .i64 i4 1), b5, l6, b7, l8, m9⟩) (bdq (assoc ty (.int .i64) (((ix d2.elems i4.toNat).at 2).at 3) m9 0) fun q10 => (cond (!q10.isSome) (bdq (assoc ty (.int .i64) (((ix d2.elems i4.toNat).at 2).at 3) m9 0) fun q11 => (rec ⟨i1, d2, i3, (ad .i64 i4 1), b5, l6, b7, l8, (entrySet m9 (((ix d2.elems i4.toNat).at 2).at 3) (ix d2.elems i4.toNat) q11)⟩)) (rec ⟨i1, d2, i3, (ad .i64 i4 1), b5, l6, b7, l8, m9⟩)))))) none) (K (.e0 b5 l6 b7 l8 m9)))
def ex3 (k : Kont) : X3 → Option D
  | .e0 b5 l6 b7 l8 m9 => k (.exit 0) ((us 4 ((.ptr 0 [] k0_) :: (us 2 ((.map 1) :: (us 81 [])))))) [(.var k0_ (vk k0_ (da [(dl b5 l6), (dl b7 l8)]))), (.map 3 45 m9)]
def lv3 : S3 → List Leaf
  | ⟨i1, d2, i3, i4, b5, l6, b7, l8, m9⟩ => [.i i1, .d d2, .i i3, .i i4, .b b5, .l l6, .b b7, .l l8, .m m9]
def of3 : List Leaf → Option S3
  | [.i i1, .d d2, .i i3, .i i4, .b b5, .l l6, .b b7, .l l8, .m m9] => some ⟨i1, d2, i3, i4, b5, l6, b7, l8, m9⟩
  | _ => none
def ps3 : List PV := ((up 1 ((.d (.int .i64) (.int .i64)) :: (up 2 ((.ptr 0 [] k0_) :: (up 2 ((.map 1) :: (up 12 ((.d (.slice 45) .x) :: (.d (.int .i64) (.int .i64)) :: (.d (.int .i64) (.int .i64)) :: (up 66 []))))))))))
def qs3 : List PO := [q0_, (.map 3 45)]
noncomputable def t1 (M : Nat) : List Ent := ⟨22, 11, 0, 3, sumS [1, 4, 7, 20, 21, 22] ps3 qs3 [] of3 (st3 M) ex3 M⟩ :: []
theorem t1_ok (M : Nat) : AllOk (e M) (tblOf (t1 M)) := AllOk.addS (n0 := 2) (lv := lv3) AllOk.nil (by kernel_rfl) rfl (by intro ls s h; unfold of3 at h; (repeat' split at h) <;> simp at h; subst h; rfl) (by intro s; kernel_rfl) (by intro s; kernel_rfl) (by intro s nx k; kernel_rfl)
structure S14 where
  (n12 n13 n14 n15 : Nat) (i16 : Int) (b17 : Bool) (l18 : List D) (b19 : Bool) (l20 : List D) (m21 : List (D × D)) (b22 : Bool) (l23 : List D) (b24 : Bool) (l25 : List D)
inductive X14 where
  | e0 (n12 n13 n14 n15 : Nat) (b17 : Bool) (l18 : List D) (b19 : Bool) (l20 : List D) (m21 : List (D × D)) (b22 : Bool) (l23 : List D) (b24 : Bool) (l25 : List D) (q26 : Option Nat)
def st14 (M : Nat) : S14 → (S14 → Option D) → (X14 → Option D) → Option D
  | ⟨n12, n13, n14, n15, i16, b17, l18, b19, l20, m21, b22, l23, b24, l25⟩, rec, K => (bdq (assoc ty (.int .i64) (di i16) m21 0) fun q26 => (cond (!q26.isSome) (K (.e0 n12 n13 n14 n15 b17 l18 b19 l20 m21 b22 l23 b24 l25 q26)) (cond (mx (n13 + 1)) (cond (mx (n15 + 1)) (rec ⟨0, (n13 + 1), 0, (n15 + 1), (ad .i64 i16 1), b17, l18, b19, l20, m21, (b22 || true), (ap ((l23.drop n12).take n13) [(entryVal m21 (da [(di 0), (di 0), (da [(di 0), (di 0), (di 0), (di 0), (dS (bs []))])]) q26)]), (b24 || true), (ap ((l25.drop n14).take n15) [(((entryVal m21 (da [(di 0), (di 0), (da [(di 0), (di 0), (di 0), (di 0), (dS (bs []))])]) q26).at 2).at 4)])⟩) none) none)))
def ex14 (k : Kont) : X14 → Option D
  | .e0 n12 n13 n14 n15 b17 l18 b19 l20 m21 b22 l23 b24 l25 q26 => k (.exit 2) ((us 4 ((.ptr 0 [] k0_) :: (us 7 ((.sref 2 n12 n13) :: (.sref 3 n14 n15) :: (us 75 [])))))) [(.var k0_ (vk k0_ (da [(dl b17 l18), (dl b19 l20)]))), (.map 3 45 m21), (.row 45 true b22 l23), (.row 9 true b24 l25), (.var (.struct [3, 3, 43]) (vk (.struct [3, 3, 43]) (entryVal m21 (da [(di 0), (di 0), (da [(di 0), (di 0), (di 0), (di 0), (dS (bs []))])]) q26)))]
def lv14 : S14 → List Leaf
  | ⟨n12, n13, n14, n15, i16, b17, l18, b19, l20, m21, b22, l23, b24, l25⟩ => [.n n12, .n n13, .n n14, .n n15, .i i16, .b b17, .l l18, .b b19, .l l20, .m m21, .b b22, .l l23, .b b24, .l l25]
def of14 : List Leaf → Option S14
  | [.n n12, .n n13, .n n14, .n n15, .i i16, .b b17, .l l18, .b b19, .l l20, .m m21, .b b22, .l l23, .b b24, .l l25] => some ⟨n12, n13, n14, n15, i16, b17, l18, b19, l20, m21, b22, l23, b24, l25⟩
  | _ => none
def ps14 : List PV := ((up 4 ((.ptr 0 [] k0_) :: (up 2 ((.map 1) :: (up 4 ((.sref 2) :: (.sref 3) :: (.d (.int .i64) (.int .i64)) :: (up 74 []))))))))
def qs14 : List PO := [q0_, (.map 3 45), (.row 45 true), (.row 9 true)]
noncomputable def t (M : Nat) : List Ent := ⟨22, 11, 0, 14, sumS [4, 7, 12, 13, 14] ps14 qs14 [(12, 2), (13, 3)] of14 (st14 M) ex14 M⟩ :: t1 M
theorem t_ok (M : Nat) : AllOk (e M) (tblOf (t M)) := AllOk.addS (n0 := 4) (lv := lv14) (t1_ok M) (by kernel_rfl) rfl (by intro ls s h; unfold of14 at h; (repeat' split at h) <;> simp at h; subst h; rfl) (by intro s; kernel_rfl) (by intro s; kernel_rfl) (by intro s nx k; kernel_rfl)
def s (M : Nat) (p0 : D) (p1 : Int) : Option D :=
  (goS (st3 M) M ⟨p1, p0, (nI p0.elems.length), 0, false, [], false, [], []⟩ fun x => match x with | .e0 b5 l6 b7 l8 m9 => (goS (st14 M) M ⟨0, 0, 0, 0, 0, b5, l6, b7, l8, m9, false, [], false, []⟩ fun x => match x with | .e0 n12 n13 n14 n15 b17 l18 b19 l20 m21 b22 l23 b24 l25 q26 => (bd (F35.s FUEL (dl b24 ((l25.drop n14).take n15))) fun r27 => (cond (!(r27.at 1).b) (some (D.tup [(da [(dl false []), (dl false [])]), (dl false []), (db false)])) (some (D.tup [(r27.at 0), (dl b22 ((l23.drop n12).take n13)), (db true)]))))))
theorem run (M : Nat) (p0 : D) (p1 : Int) : callS (e M) (tblOf (t M)) 12 (.fn 22) [.d (.slice 45) p0, .d (.int .i64) (di p1)] [] (fun v H => finish ty [26, 22, 4] v H) = s M p0 p1 := by kernel_rfl
def c : Con := { run := fun ds => match ds with | [p0, p1] => s FUEL p0 p1.i | _ => none }
theorem ok : ConOk (22, c) := mkC Try.f22 [(.slice 45), (.int .i64)] [26, 22, 4] (by kernel_rfl) (by kernel_rfl) (by kernel_rfl) (by kernel_rfl) (allCons F35.ok allNil) allNil (t_ok FUEL) fun a => run FUEL a.1 a.2.1
end F22
end Go.AM.SP
