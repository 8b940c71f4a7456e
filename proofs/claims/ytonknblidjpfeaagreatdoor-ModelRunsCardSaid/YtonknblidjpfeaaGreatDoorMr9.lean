/- Part 9 of the proof: the abstract machine, what the functions compute, and plain laws over that. -/
import Derived.Test.YtonknblidjpfeaaGreatDoorMr8
set_option linter.all false
set_option linter.unusedSimpArgs false
set_option linter.unusedVariables false
set_option linter.unusedSectionVars false
namespace Go.AM.SZ
open Go Go.AM Go.Proofs Go.RowKit
namespace F33
def cons : List (Nat × Con) := []
def exts : List (Nat × Ext) := []
def h : List (Nat × Nat × Hint) := []
noncomputable def e (M : Nat) : Env := env cons exts h M
def s (M : Nat) (p0 : Int) : Option D :=
  (some (da [(di p0), (di 0), (dS (bs [])), (da [(di 0), (dS (bs [])), (dS (bs [])), (db false), (di 0), (dl false [])]), (dl false [])]))
theorem run (M : Nat) (p0 : Int) : callS (e M) (tblOf []) 12 (.fn 33) [.d (.int .i64) (di p0)] [] (fun v H => finish ty [41] v H) = s M p0 := by kernel_rfl
def c : Con := { run := fun ds => match ds with | [p0] => s FUEL p0.i | _ => none }
theorem ok : ConOk (33, c) := mkC Tryz.f33 [(.int .i64)] [41] (by kernel_rfl) (by kernel_rfl) (by kernel_rfl) (by kernel_rfl) allNil allNil AllOk.nil fun a => run FUEL a.1
end F33
namespace F25
def k0_ : K := (.struct [25, 3, 3])
def k1_ : K := (.struct [3, 9, 9, 4, 3, 37])
def cons : List (Nat × Con) := []
def exts : List (Nat × Ext) := []
def h : List (Nat × Nat × Hint) := [(45, 2, { live := [0, 1, 7, 8] })]
noncomputable def e (M : Nat) : Env := env cons exts h M
structure S45_2 where
  (d1 : D) (i2 i3 : Int) (d4 : D) (s5 : ByteArray)
inductive X45_2 where
  | e0 (d1 : D) (i2 i3 : Int) (d4 : D) (s5 : ByteArray)
  | e1 (d1 : D) (i2 i3 : Int) (d4 : D) (s5 : ByteArray)
def st45_2 (M : Nat) : S45_2 → (S45_2 → Option D) → (X45_2 → Option D) → Option D
  | ⟨d1, i2, i3, d4, s5⟩, rec, K => (cond (ltI i3 i2) (cond (inb i3 d1.elems.length) (cond (eqS ((ix d1.elems i3.toNat).at 1).s s5) (K (.e0 d1 i2 i3 d4 s5)) (rec ⟨d1, i2, (ad .i64 i3 1), d4, s5⟩)) none) (K (.e1 d1 i2 i3 d4 s5)))
def lv45_2 : S45_2 → List Leaf
  | ⟨d1, i2, i3, d4, s5⟩ => [.d d1, .i i2, .i i3, .d d4, .s s5]
def of45_2 : List Leaf → Option S45_2
  | [.d d1, .i i2, .i i3, .d d4, .s s5] => some ⟨d1, i2, i3, d4, s5⟩
  | _ => none
def ex45_2 (k : Kont) : X45_2 → Option D
  | .e0 d1 i2 i3 d4 s5 => k .ret ((vk (.slice 39) d1) :: (.func (.func 46) [] [(.ptr 1 [] .str)]) :: (us 2 ((vi i3) :: (vi i3) :: (us 1 ((vi i2) :: (vi i3) :: (vb (ltI i3 i2)) :: (vi i3) :: (.func (.func 46) [] [(.ptr 1 [] .str)]) :: (vk (.slice 39) d1) :: (vi i3) :: (.cptr k1_ (ix d1.elems i3.toNat)) :: (vk k1_ (ix d1.elems i3.toNat)) :: (vb (eqS ((ix d1.elems i3.toNat).at 1).s s5)) :: (vi i3) :: (us 1 [])))))) [(.var k0_ (vk k0_ d4)), (.var .str (vS s5)), (.var k1_ (vk k1_ (ix d1.elems i3.toNat)))]
  | .e1 d1 i2 i3 d4 s5 => k (.exit 0) ((vk (.slice 39) d1) :: (.func (.func 46) [] [(.ptr 1 [] .str)]) :: (us 5 ((vi i2) :: (vi i3) :: (vb (ltI i3 i2)) :: (us 9 [])))) [(.var k0_ (vk k0_ d4)), (.var .str (vS s5))]
def ps45_2 : List PV := ((.d (.slice 39) .x) :: (.func 46 [] [(.ptr 1 [] .str)]) :: (up 5 ((.d (.int .i64) (.int .i64)) :: (.d (.int .i64) (.int .i64)) :: (up 10 []))))
def qs45_2 : List PO := [(.var k0_ (.d k0_ .x)), (.var .str (.d .str .str))]
noncomputable def t (M : Nat) : List Ent := ⟨45, 10, 2, 2, sumS [0, 1, 7, 8] ps45_2 qs45_2 [] of45_2 (st45_2 M) ex45_2 M⟩ :: []
theorem t_ok (M : Nat) : AllOk (e M) (tblOf (t M)) := AllOk.addS (n0 := 2) (lv := lv45_2) AllOk.nil (by kernel_rfl) rfl (by intro ls s h; unfold of45_2 at h; (repeat' split at h) <;> simp at h; subst h; rfl) (by intro s; kernel_rfl) (by intro s; kernel_rfl) (by intro s nx k; kernel_rfl)
def s (M : Nat) (p0 : D) (p1 : ByteArray) : Option D :=
  (goS (st45_2 M) M ⟨(p0.at 0), (nI (p0.at 0).elems.length), 0, p0, p1⟩ fun x => match x with | .e0 d1 i2 i3 d4 s5 => (some (di i3)) | .e1 d1 i2 i3 d4 s5 => (some (di (-1))))
theorem run (M : Nat) (p0 : D) (p1 : ByteArray) : callS (e M) (tblOf (t M)) 12 (.fn 25) [.d (.struct [25, 3, 3]) p0, .d .str (dS p1)] [] (fun v H => finish ty [3] v H) = s M p0 p1 := by kernel_rfl
def c : Con := { run := fun ds => match ds with | [p0, p1] => s FUEL p0 p1.s | _ => none, plain := true }
theorem ok : ConOk (25, c) := mkC Tryz.f25 [(.struct [25, 3, 3]), .str] [3] (by kernel_rfl) (by kernel_rfl) (by kernel_rfl) (by kernel_rfl) allNil allNil (t_ok FUEL) fun a => run FUEL a.1 a.2.1
end F25
namespace F101
def cons : List (Nat × Con) := []
def exts : List (Nat × Ext) := []
def h : List (Nat × Nat × Hint) := []
noncomputable def e (M : Nat) : Env := env cons exts h M
def s (M : Nat) (p0 : Int) : Option D :=
  (cond (geI p0 1) (some (db (leI p0 1099511627776))) (some (db false)))
theorem run (M : Nat) (p0 : Int) : callS (e M) (tblOf []) 12 (.fn 101) [.d (.int .i64) (di p0)] [] (fun v H => finish ty [4] v H) = s M p0 := by kernel_rfl
def c : Con := { run := fun ds => match ds with | [p0] => s FUEL p0.i | _ => none, plain := true }
theorem ok : ConOk (101, c) := mkC Tryz.f101 [(.int .i64)] [4] (by kernel_rfl) (by kernel_rfl) (by kernel_rfl) (by kernel_rfl) allNil allNil AllOk.nil fun a => run FUEL a.1
end F101
namespace F106
def cons : List (Nat × Con) := [(70, F70.c), (101, F101.c)]
def exts : List (Nat × Ext) := []
def h : List (Nat × Nat × Hint) := []
noncomputable def e (M : Nat) : Env := env cons exts h M
def s (M : Nat) (p0 : Int) (p1 : ByteArray) : Option D :=
  (bd (F70.s FUEL p1) fun r1 => (cond (!r1.b) (some (D.tup [(da [(di 0), (dS (bs [])), (dS (bs [])), (db false), (di 0), (dl false [])]), (di 2)])) (bd (F101.s FUEL p0) fun r2 => (cond (!r2.b) (some (D.tup [(da [(di 0), (dS (bs [])), (dS (bs [])), (db false), (di 0), (dl false [])]), (di 1)])) (some (D.tup [(da [(di p0), (dS p1), (dS (bs [])), (db false), (di 0), (dl false [])]), (di 0)]))))))
theorem run (M : Nat) (p0 : Int) (p1 : ByteArray) : callS (e M) (tblOf []) 12 (.fn 106) [.d (.int .i64) (di p0), .d .str (dS p1)] [] (fun v H => finish ty [39, 36] v H) = s M p0 p1 := by kernel_rfl
def c : Con := { run := fun ds => match ds with | [p0, p1] => s FUEL p0.i p1.s | _ => none }
theorem ok : ConOk (106, c) := mkC Tryz.f106 [(.int .i64), .str] [39, 36] (by kernel_rfl) (by kernel_rfl) (by kernel_rfl) (by kernel_rfl) (allCons F70.ok (allCons F101.ok allNil)) allNil AllOk.nil fun a => run FUEL a.1 a.2.1
end F106
namespace F107
def cons : List (Nat × Con) := []
def exts : List (Nat × Ext) := []
def h : List (Nat × Nat × Hint) := []
noncomputable def e (M : Nat) : Env := env cons exts h M
def s (M : Nat) (p0 : D) : Option D :=
  (cond (!p0.nn) (some (.slice false [])) (cond (mx p0.elems.length) (cond ((decide (p0.elems.length = p0.elems.length)) && true) (some (.slice true p0.elems)) none) none))
theorem run (M : Nat) (p0 : D) : callS (e M) (tblOf []) 12 (.fn 107) [.d (.slice 39) p0] [] (fun v H => finishFresh ty [25] v H) = s M p0 := by kernel_rfl
def c : Con := { run := fun ds => match ds with | [p0] => s FUEL p0 | _ => none, fresh := true }
theorem ok : ConOk (107, c) := mkF Tryz.f107 [(.slice 39)] [25] (by kernel_rfl) (by kernel_rfl) (by kernel_rfl) allNil allNil AllOk.nil fun a => run FUEL a.1
end F107
namespace F148
def cons : List (Nat × Con) := []
def exts : List (Nat × Ext) := []
def h : List (Nat × Nat × Hint) := []
noncomputable def e (M : Nat) : Env := env cons exts h M
def s (M : Nat) (p0 : D) (p1 : ByteArray) : Option D :=
  (cond (p0.at 3).b (some (D.tup [p0, (di 5)])) (cond (eqS p1 (bs [])) (some (D.tup [p0, (di 1)])) (cond (gtI (ad .i64 (nI (p0.at 2).s.size) (nI p1.size)) 600) (some (D.tup [p0, (di 10)])) (bd (cat (p0.at 2).s p1) fun r1 => (some (D.tup [(D.agg (p0.parts.set 2 r1)), (di 0)]))))))
theorem run (M : Nat) (p0 : D) (p1 : ByteArray) : callS (e M) (tblOf []) 12 (.fn 148) [.d (.struct [3, 9, 9, 4, 3, 37]) p0, .d .str (dS p1)] [] (fun v H => finish ty [39, 36] v H) = s M p0 p1 := by kernel_rfl
def c : Con := { run := fun ds => match ds with | [p0, p1] => s FUEL p0 p1.s | _ => none }
theorem ok : ConOk (148, c) := mkC Tryz.f148 [(.struct [3, 9, 9, 4, 3, 37]), .str] [39, 36] (by kernel_rfl) (by kernel_rfl) (by kernel_rfl) (by kernel_rfl) allNil allNil AllOk.nil fun a => run FUEL a.1 a.2.1
end F148
namespace F138
def cons : List (Nat × Con) := []
def exts : List (Nat × Ext) := []
def h : List (Nat × Nat × Hint) := []
noncomputable def e (M : Nat) : Env := env cons exts h M
def s (M : Nat)  : Option D :=
  (some (dl true [(D.tup [(di 1), (D.iface 189 (D.fn 148))]), (D.tup [(di 4), (D.iface 189 (D.fn 81))]), (D.tup [(di 5), (D.iface 189 (D.fn 83))]), (D.tup [(di 2), (D.iface 191 (D.fn 76))]), (D.tup [(di 3), (D.iface 191 (D.fn 79))]), (D.tup [(di 6), (D.iface 188 (D.fn 85))])]))
theorem run (M : Nat)  : callS (e M) (tblOf []) 12 (.fn 138) [] [] (fun v H => finishFresh ty [186] v H) = s M  := by kernel_rfl
def c : Con := { run := fun ds => match ds with | [] => s FUEL  | _ => none, fresh := true }
theorem ok : ConOk (138, c) := mkF Tryz.f138 [] [186] (by kernel_rfl) (by kernel_rfl) (by kernel_rfl) allNil allNil AllOk.nil fun _ => run FUEL
end F138
namespace F130
def cons : List (Nat × Con) := []
def exts : List (Nat × Ext) := []
def h : List (Nat × Nat × Hint) := [(130, 2, { live := [0, 3] })]
noncomputable def e (M : Nat) : Env := env cons exts h M
structure S2 where
  (i1 i2 : Int)
inductive X2 where
  | e0 (i1 i2 : Int) (r3 : D)
  | e1 (i1 i2 : Int)
def st2 (M : Nat) : S2 → (S2 → Option D) → (X2 → Option D) → Option D
  | ⟨i1, i2⟩, rec, K => (cond (leI (ml .i64 i2 i2) i1) (bd (if i2 = 0 then none else some (.int .i64 (remI i1 i2))) fun r3 => (cond (eqI r3.i 0) (K (.e0 i1 i2 r3)) (rec ⟨i1, (ad .i64 i2 1)⟩))) (K (.e1 i1 i2)))
def lv2 : S2 → List Leaf
  | ⟨i1, i2⟩ => [.i i1, .i i2]
def of2 : List Leaf → Option S2
  | [.i i1, .i i2] => some ⟨i1, i2⟩
  | _ => none
def ex2 (k : Kont) : X2 → Option D
  | .e0 i1 i2 r3 => k .ret ((vi i1) :: (us 1 ((vb false) :: (vi i2) :: (vi i2) :: (vi i2) :: (vi (ml .i64 i2 i2)) :: (vi i1) :: (vb (leI (ml .i64 i2 i2) i1)) :: (us 2 ((vi i1) :: (vi i2) :: (vk (.int .i64) r3) :: (vb (eqI r3.i 0)) :: (us 2 [])))))) []
  | .e1 i1 i2 => k (.exit 0) ((vi i1) :: (us 2 ((vi i2) :: (vi i2) :: (vi i2) :: (vi (ml .i64 i2 i2)) :: (vi i1) :: (vb (leI (ml .i64 i2 i2) i1)) :: (us 8 [])))) []
def ps2 : List PV := ((.d (.int .i64) (.int .i64)) :: (up 2 ((.d (.int .i64) (.int .i64)) :: (up 13 []))))
def qs2 : List PO := []
noncomputable def t (M : Nat) : List Ent := ⟨130, 11, 0, 2, sumS [0, 3] ps2 qs2 [] of2 (st2 M) ex2 M⟩ :: []
theorem t_ok (M : Nat) : AllOk (e M) (tblOf (t M)) := AllOk.addS (n0 := 0) (lv := lv2) AllOk.nil (by kernel_rfl) rfl (by intro ls s h; unfold of2 at h; (repeat' split at h) <;> simp at h; subst h; rfl) (by intro s; kernel_rfl) (by intro s; kernel_rfl) (by intro s nx k; kernel_rfl)
def s (M : Nat) (p0 : Int) : Option D :=
  (goS (st2 M) M ⟨p0, 2⟩ fun x => match x with | .e0 i1 i2 r3 => (some (db false)) | .e1 i1 i2 => (some (db (gtI i1 1))))
theorem run (M : Nat) (p0 : Int) : callS (e M) (tblOf (t M)) 12 (.fn 130) [.d (.int .i64) (di p0)] [] (fun v H => finish ty [4] v H) = s M p0 := by kernel_rfl
def c : Con := { run := fun ds => match ds with | [p0] => s FUEL p0.i | _ => none, plain := true }
theorem ok : ConOk (130, c) := mkC Tryz.f130 [(.int .i64)] [4] (by kernel_rfl) (by kernel_rfl) (by kernel_rfl) (by kernel_rfl) allNil allNil (t_ok FUEL) fun a => run FUEL a.1
end F130
namespace F153
def cons : List (Nat × Con) := []
def exts : List (Nat × Ext) := []
def h : List (Nat × Nat × Hint) := []
noncomputable def e (M : Nat) : Env := env cons exts h M
def s (M : Nat) (p0 : Int) (p1 : Int) : Option D :=
  (some (D.tup [(D.int .u64 (ad .u64 (ad .u64 (ml .u64 (shrI .u64 p0 32) (shrI .u64 p1 32)) (shrI .u64 (ad .u64 (ml .u64 (shrI .u64 p0 32) (andI .u64 p1 4294967295)) (shrI .u64 (ml .u64 (andI .u64 p0 4294967295) (andI .u64 p1 4294967295)) 32)) 32)) (shrI .u64 (ad .u64 (andI .u64 (ad .u64 (ml .u64 (shrI .u64 p0 32) (andI .u64 p1 4294967295)) (shrI .u64 (ml .u64 (andI .u64 p0 4294967295) (andI .u64 p1 4294967295)) 32)) 4294967295) (ml .u64 (andI .u64 p0 4294967295) (shrI .u64 p1 32))) 32))), (D.int .u64 (ml .u64 p0 p1))]))
theorem run (M : Nat) (p0 : Int) (p1 : Int) : callS (e M) (tblOf []) 12 (.fn 153) [.d (.int .u64) (D.int .u64 p0), .d (.int .u64) (D.int .u64 p1)] [] (fun v H => finish ty [174, 174] v H) = s M p0 p1 := by kernel_rfl
def c : Con := { run := fun ds => match ds with | [p0, p1] => s FUEL p0.i p1.i | _ => none, plain := true }
theorem ok : ConOk (153, c) := mkC Tryz.f153 [(.int .u64), (.int .u64)] [174, 174] (by kernel_rfl) (by kernel_rfl) (by kernel_rfl) (by kernel_rfl) allNil allNil AllOk.nil fun a => run FUEL a.1 a.2.1
end F153
namespace F145
def cons : List (Nat × Con) := [(153, F153.c)]
def exts : List (Nat × Ext) := []
def h : List (Nat × Nat × Hint) := []
noncomputable def e (M : Nat) : Env := env cons exts h M
def s (M : Nat) (p0 : Int) (p1 : Int) (p2 : Int) : Option D :=
  (bd (F153.s FUEL p0 p0) fun r1 => (cond (eqI p2 2) (cond (ltI (r1.at 0).i p1) (some (db true)) (cond (eqI (r1.at 0).i p1) (some (db (eqI (r1.at 1).i 0))) (some (db false)))) (bd (F153.s FUEL (r1.at 1).i p0) fun r2 => (bd (F153.s FUEL (r1.at 0).i p0) fun r3 => (cond (Nat.ble 0 1) (cond (ltI (orI .u64 (shlI .u64 (ad .u64 (r3.at 0).i ((((r2.at 0).i.toNat + (r3.at 1).i.toNat + 0) / 18446744073709551616 : Nat) : Int)) 32) (shrI .u64 ((((r2.at 0).i.toNat + (r3.at 1).i.toNat + 0) % 18446744073709551616 : Nat) : Int) 32)) p1) (some (db true)) (cond (eqI (orI .u64 (shlI .u64 (ad .u64 (r3.at 0).i ((((r2.at 0).i.toNat + (r3.at 1).i.toNat + 0) / 18446744073709551616 : Nat) : Int)) 32) (shrI .u64 ((((r2.at 0).i.toNat + (r3.at 1).i.toNat + 0) % 18446744073709551616 : Nat) : Int) 32)) p1) (cond (eqI (cv .u32 ((((r2.at 0).i.toNat + (r3.at 1).i.toNat + 0) % 18446744073709551616 : Nat) : Int)) 0) (some (db (eqI (r2.at 1).i 0))) (some (db false))) (some (db false)))) none)))))
theorem run (M : Nat) (p0 : Int) (p1 : Int) (p2 : Int) : callS (e M) (tblOf []) 12 (.fn 145) [.d (.int .u64) (D.int .u64 p0), .d (.int .u64) (D.int .u64 p1), .d (.int .i64) (di p2)] [] (fun v H => finish ty [4] v H) = s M p0 p1 p2 := by kernel_rfl
def c : Con := { run := fun ds => match ds with | [p0, p1, p2] => s FUEL p0.i p1.i p2.i | _ => none, plain := true }
theorem ok : ConOk (145, c) := mkC Tryz.f145 [(.int .u64), (.int .u64), (.int .i64)] [4] (by kernel_rfl) (by kernel_rfl) (by kernel_rfl) (by kernel_rfl) (allCons F153.ok allNil) allNil AllOk.nil fun a => run FUEL a.1 a.2.1 a.2.2.1
end F145
namespace F131
def cons : List (Nat × Con) := [(145, F145.c)]
def exts : List (Nat × Ext) := []
def h : List (Nat × Nat × Hint) := [(131, 3, { live := [0, 1, 5, 6] })]
noncomputable def e (M : Nat) : Env := env cons exts h M
structure S3 where
  (i1 i2 i3 i4 : Int)
inductive X3 where
  | e0 (i1 i2 i3 i4 : Int)
def st3 (M : Nat) : S3 → (S3 → Option D) → (X3 → Option D) → Option D
  | ⟨i1, i2, i3, i4⟩, rec, K => (cond (gtI i4 0) (bd (F145.s FUEL (orI .u64 i3 i4) i1 i2) fun r5 => (cond r5.b (rec ⟨i1, i2, (orI .u64 i3 i4), (shrI .u64 i4 1)⟩) (rec ⟨i1, i2, i3, (shrI .u64 i4 1)⟩))) (K (.e0 i1 i2 i3 i4)))
def lv3 : S3 → List Leaf
  | ⟨i1, i2, i3, i4⟩ => [.i i1, .i i2, .i i3, .i i4]
def of3 : List Leaf → Option S3
  | [.i i1, .i i2, .i i3, .i i4] => some ⟨i1, i2, i3, i4⟩
  | _ => none
def ex3 (k : Kont) : X3 → Option D
  | .e0 i1 i2 i3 i4 => k (.exit 0) ((vk (.int .u64) (D.int .u64 i1)) :: (vi i2) :: (us 3 ((vk (.int .u64) (D.int .u64 i3)) :: (vk (.int .u64) (D.int .u64 i4)) :: (vk (.int .u64) (D.int .u64 i4)) :: (vb (gtI i4 0)) :: (us 13 [])))) []
def ps3 : List PV := ((.d (.int .u64) (.int .u64)) :: (.d (.int .i64) (.int .i64)) :: (up 3 ((.d (.int .u64) (.int .u64)) :: (.d (.int .u64) (.int .u64)) :: (up 15 []))))
def qs3 : List PO := []
noncomputable def t (M : Nat) : List Ent := ⟨131, 11, 0, 3, sumS [0, 1, 5, 6] ps3 qs3 [] of3 (st3 M) ex3 M⟩ :: []
theorem t_ok (M : Nat) : AllOk (e M) (tblOf (t M)) := AllOk.addS (n0 := 0) (lv := lv3) AllOk.nil (by kernel_rfl) rfl (by intro ls s h; unfold of3 at h; (repeat' split at h) <;> simp at h; subst h; rfl) (by intro s; kernel_rfl) (by intro s; kernel_rfl) (by intro s nx k; kernel_rfl)
def s (M : Nat) (p0 : Int) (p1 : Int) : Option D :=
  (goS (st3 M) M ⟨p0, p1, 0, 137438953472⟩ fun x => match x with | .e0 i1 i2 i3 i4 => (some (D.int .u32 (cv .u32 i3))))
theorem run (M : Nat) (p0 : Int) (p1 : Int) : callS (e M) (tblOf (t M)) 12 (.fn 131) [.d (.int .u64) (D.int .u64 p0), .d (.int .i64) (di p1)] [] (fun v H => finish ty [139] v H) = s M p0 p1 := by kernel_rfl
def c : Con := { run := fun ds => match ds with | [p0, p1] => s FUEL p0.i p1.i | _ => none, plain := true }
theorem ok : ConOk (131, c) := mkC Tryz.f131 [(.int .u64), (.int .i64)] [139] (by kernel_rfl) (by kernel_rfl) (by kernel_rfl) (by kernel_rfl) (allCons F145.ok allNil) allNil (t_ok FUEL) fun a => run FUEL a.1 a.2.1
end F131
namespace F87
def cons : List (Nat × Con) := [(130, F130.c), (131, F131.c)]
def exts : List (Nat × Ext) := []
def h : List (Nat × Nat × Hint) := [(87, 3, { live := [0, 1, 2, 3] })]
noncomputable def e (M : Nat) : Env := env cons exts h M
structure S3 where
  (i15 i16 : Int) (d17 d18 : D)
inductive X3 where
  | e0 (i15 i16 : Int) (d17 d18 : D)
def st3 (M : Nat) : S3 → (S3 → Option D) → (X3 → Option D) → Option D
  | ⟨i15, i16, d17, d18⟩, rec, K => (cond (ltI i15 64) (bd (F130.s FUEL i16) fun r19 => (cond (!r19.b) (rec ⟨i15, (ad .i64 i16 1), d17, d18⟩) (bd (F131.s FUEL (cv .u64 i16) 3) fun r20 => (cond (inb i15 64) (cond (ltI i15 8) (bd (F131.s FUEL (cv .u64 i16) 2) fun r21 => (cond (inb i15 8) (rec ⟨(ad .i64 i15 1), (ad .i64 i16 1), (D.agg (d17.parts.set i15.toNat r21)), (D.agg (d18.parts.set i15.toNat r20))⟩) none)) (rec ⟨(ad .i64 i15 1), (ad .i64 i16 1), d17, (D.agg (d18.parts.set i15.toNat r20))⟩)) none)))) (K (.e0 i15 i16 d17 d18)))
def lv3 : S3 → List Leaf
  | ⟨i15, i16, d17, d18⟩ => [.i i15, .i i16, .d d17, .d d18]
def of3 : List Leaf → Option S3
  | [.i i15, .i i16, .d d17, .d d18] => some ⟨i15, i16, d17, d18⟩
  | _ => none
def ex3 (k : Kont) : X3 → Option D
  | .e0 i15 i16 d17 d18 => k (.exit 0) ((.ptr 0 [] (.array 8 139)) :: (.ptr 1 [] (.array 64 139)) :: (vi i15) :: (vi i16) :: (vi i15) :: (vb (ltI i15 64)) :: (us 21 [])) [(.var (.array 8 139) (vk (.array 8 139) d17)), (.var (.array 64 139) (vk (.array 64 139) d18))]
def ps3 : List PV := ((.ptr 0 [] (.array 8 139)) :: (.ptr 1 [] (.array 64 139)) :: (.d (.int .i64) (.int .i64)) :: (.d (.int .i64) (.int .i64)) :: (up 23 []))
def qs3 : List PO := [(.var (.array 8 139) (.d (.array 8 139) .x)), (.var (.array 64 139) (.d (.array 64 139) .x))]
noncomputable def t (M : Nat) : List Ent := ⟨87, 11, 0, 3, sumS [0, 1, 2, 3] ps3 qs3 [] of3 (st3 M) ex3 M⟩ :: []
theorem t_ok (M : Nat) : AllOk (e M) (tblOf (t M)) := AllOk.addS (n0 := 2) (lv := lv3) AllOk.nil (by kernel_rfl) rfl (by intro ls s h; unfold of3 at h; (repeat' split at h) <;> simp at h; subst h; rfl) (by intro s; kernel_rfl) (by intro s; kernel_rfl) (by intro s nx k; kernel_rfl)
def s (M : Nat)  : Option D :=
  (goS (st3 M) M ⟨0, 2, (da (rp 8 (D.int .u32 0))), (da (rp 64 (D.int .u32 0)))⟩ fun x => match x with | .e0 i15 i16 d17 d18 => (some (D.tup [d17, d18])))
theorem run (M : Nat)  : callS (e M) (tblOf (t M)) 12 (.fn 87) [] [] (fun v H => finish ty [140, 141] v H) = s M  := by kernel_rfl
def c : Con := { run := fun ds => match ds with | [] => s FUEL  | _ => none, plain := true }
theorem ok : ConOk (87, c) := mkC Tryz.f87 [] [140, 141] (by kernel_rfl) (by kernel_rfl) (by kernel_rfl) (by kernel_rfl) (allCons F130.ok (allCons F131.ok allNil)) allNil (t_ok FUEL) fun _ => run FUEL
end F87
namespace F88
def cons : List (Nat × Con) := []
def exts : List (Nat × Ext) := []
def h : List (Nat × Nat × Hint) := [(88, 2, { live := [0, 3], rows := [(3, 5)] }), (88, 6, { live := [3, 4, 5], rows := [(3, 5)] })]
noncomputable def e (M : Nat) : Env := env cons exts h M
structure S2 where
  (s1 : ByteArray) (n2 n3 : Nat) (b4 : Bool) (l5 : List D)
inductive X2 where
  | e0 (s1 : ByteArray) (n2 n3 : Nat) (b4 : Bool) (l5 : List D)
def st2 (M : Nat) : S2 → (S2 → Option D) → (X2 → Option D) → Option D
  | ⟨s1, n2, n3, b4, l5⟩, rec, K => (cond (neI (remI (nI n3) 64) 56) (cond (mx (n3 + 1)) (rec ⟨s1, 0, (n3 + 1), (b4 || true), (ap ((l5.drop n2).take n3) [(D.int .u8 0)])⟩) none) (K (.e0 s1 n2 n3 b4 l5)))
def lv2 : S2 → List Leaf
  | ⟨s1, n2, n3, b4, l5⟩ => [.s s1, .n n2, .n n3, .b b4, .l l5]
def of2 : List Leaf → Option S2
  | [.s s1, .n n2, .n n3, .b b4, .l l5] => some ⟨s1, n2, n3, b4, l5⟩
  | _ => none
def ex2 (k : Kont) : X2 → Option D
  | .e0 s1 n2 n3 b4 l5 => k (.exit 0) ((vS s1) :: (us 2 ((.sref 1 n2 n3) :: (us 6 ((.sref 1 n2 n3) :: (vi (nI n3)) :: (vi (remI (nI n3) 64)) :: (vb (neI (remI (nI n3) 64) 56)) :: (us 21 [])))))) [.dead, (.row 5 true b4 l5)]
def ps2 : List PV := ((.d .str .str) :: (up 2 ((.sref 1) :: (up 31 []))))
def qs2 : List PO := [.dead, (.row 5 true)]
noncomputable def t1 (M : Nat) : List Ent := ⟨88, 11, 0, 2, sumS [0, 3] ps2 qs2 [(3, 1)] of2 (st2 M) ex2 M⟩ :: []
theorem t1_ok (M : Nat) : AllOk (e M) (tblOf (t1 M)) := AllOk.addS (n0 := 2) (lv := lv2) AllOk.nil (by kernel_rfl) rfl (by intro ls s h; unfold of2 at h; (repeat' split at h) <;> simp at h; subst h; rfl) (by intro s; kernel_rfl) (by intro s; kernel_rfl) (by intro s nx k; kernel_rfl)
structure S6 where
  (n6 n7 : Nat) (i8 i9 : Int) (b10 : Bool) (l11 : List D)
inductive X6 where
  | e0 (n6 n7 : Nat) (i8 i9 : Int) (b10 : Bool) (l11 : List D)
def st6 (M : Nat) : S6 → (S6 → Option D) → (X6 → Option D) → Option D
  | ⟨n6, n7, i8, i9, b10, l11⟩, rec, K => (cond (geI i9 0) (bd (if (ml .i64 8 i9) < 0 then none else some (.int .u64 (shrI .u64 i8 (ml .i64 8 i9).toNat))) fun r12 => (cond (mx (n7 + 1)) (rec ⟨0, (n7 + 1), i8, (sb .i64 i9 1), (b10 || true), (ap ((l11.drop n6).take n7) [(D.int .u8 (cv .u8 r12.i))])⟩) none)) (K (.e0 n6 n7 i8 i9 b10 l11)))
def lv6 : S6 → List Leaf
  | ⟨n6, n7, i8, i9, b10, l11⟩ => [.n n6, .n n7, .i i8, .i i9, .b b10, .l l11]
def of6 : List Leaf → Option S6
  | [.n n6, .n n7, .i i8, .i i9, .b b10, .l l11] => some ⟨n6, n7, i8, i9, b10, l11⟩
  | _ => none
def ex6 (k : Kont) : X6 → Option D
  | .e0 n6 n7 i8 i9 b10 l11 => k (.exit 2) ((us 3 ((.sref 1 n6 n7) :: (vk (.int .u64) (D.int .u64 i8)) :: (vi i9) :: (us 15 ((vi i9) :: (vb (geI i9 0)) :: (us 12 [])))))) [.dead, (.row 5 true b10 l11)]
def ps6 : List PV := ((up 3 ((.sref 1) :: (.d (.int .u64) (.int .u64)) :: (.d (.int .i64) (.int .i64)) :: (up 29 []))))
def qs6 : List PO := [.dead, (.row 5 true)]
noncomputable def t (M : Nat) : List Ent := ⟨88, 11, 0, 6, sumS [3, 4, 5] ps6 qs6 [(3, 1)] of6 (st6 M) ex6 M⟩ :: t1 M
theorem t_ok (M : Nat) : AllOk (e M) (tblOf (t M)) := AllOk.addS (n0 := 2) (lv := lv6) (t1_ok M) (by kernel_rfl) rfl (by intro ls s h; unfold of6 at h; (repeat' split at h) <;> simp at h; subst h; rfl) (by intro s; kernel_rfl) (by intro s; kernel_rfl) (by intro s nx k; kernel_rfl)
def s (M : Nat) (p0 : ByteArray) : Option D :=
  (cond (mx p0.size) (cond (mx (p0.size + 1)) (goS (st2 M) M ⟨p0, 0, (p0.size + 1), true, (ap (((bytesOf p0).drop 0).take p0.size) [(D.int .u8 128)])⟩ fun x => match x with | .e0 s1 n2 n3 b4 l5 => (goS (st6 M) M ⟨n2, n3, (shlI .u64 (cv .u64 (nI s1.size)) 3), 7, b4, l5⟩ fun x => match x with | .e0 n6 n7 i8 i9 b10 l11 => (some (dS (ofBytes ((l11.drop n6).take n7)))))) none) none)
theorem run (M : Nat) (p0 : ByteArray) : callS (e M) (tblOf (t M)) 12 (.fn 88) [.d .str (dS p0)] [] (fun v H => finish ty [9] v H) = s M p0 := by kernel_rfl
def c : Con := { run := fun ds => match ds with | [p0] => s FUEL p0.s | _ => none, plain := true }
theorem ok : ConOk (88, c) := mkC Tryz.f88 [.str] [9] (by kernel_rfl) (by kernel_rfl) (by kernel_rfl) (by kernel_rfl) allNil allNil (t_ok FUEL) fun a => run FUEL a.1
end F88
namespace F146
def cons : List (Nat × Con) := []
def exts : List (Nat × Ext) := []
def h : List (Nat × Nat × Hint) := []
noncomputable def e (M : Nat) : Env := env cons exts h M
def s (M : Nat) (p0 : Int) (p1 : Int) : Option D :=
  (bd (if (andI .u64 (cv .u64 p1) 31) < 0 then none else some (.int .u32 (shlI .u32 p0 (andI .u64 (cv .u64 p1) 31).toNat))) fun r1 => (bd (if (sb .u64 32 (andI .u64 (cv .u64 p1) 31)) < 0 then none else some (.int .u32 (shrI .u32 p0 (sb .u64 32 (andI .u64 (cv .u64 p1) 31)).toNat))) fun r2 => (some (D.int .u32 (orI .u32 r1.i r2.i)))))
theorem run (M : Nat) (p0 : Int) (p1 : Int) : callS (e M) (tblOf []) 12 (.fn 146) [.d (.int .u32) (D.int .u32 p0), .d (.int .i64) (di p1)] [] (fun v H => finish ty [139] v H) = s M p0 p1 := by kernel_rfl
def c : Con := { run := fun ds => match ds with | [p0, p1] => s FUEL p0.i p1.i | _ => none, plain := true }
theorem ok : ConOk (146, c) := mkC Tryz.f146 [(.int .u32), (.int .i64)] [139] (by kernel_rfl) (by kernel_rfl) (by kernel_rfl) (by kernel_rfl) allNil allNil AllOk.nil fun a => run FUEL a.1 a.2.1
end F146
namespace F133
def cons : List (Nat × Con) := [(146, F146.c)]
def exts : List (Nat × Ext) := []
def h : List (Nat × Nat × Hint) := []
noncomputable def e (M : Nat) : Env := env cons exts h M
def s (M : Nat) (p0 : Int) (p1 : Int) : Option D :=
  (bd (F146.s FUEL p0 (sb .i64 0 p1)) fun r1 => (some r1))
theorem run (M : Nat) (p0 : Int) (p1 : Int) : callS (e M) (tblOf []) 12 (.fn 133) [.d (.int .u32) (D.int .u32 p0), .d (.int .i64) (di p1)] [] (fun v H => finish ty [139] v H) = s M p0 p1 := by kernel_rfl
def c : Con := { run := fun ds => match ds with | [p0, p1] => s FUEL p0.i p1.i | _ => none, plain := true }
theorem ok : ConOk (133, c) := mkC Tryz.f133 [(.int .u32), (.int .i64)] [139] (by kernel_rfl) (by kernel_rfl) (by kernel_rfl) (by kernel_rfl) (allCons F146.ok allNil) allNil AllOk.nil fun a => run FUEL a.1 a.2.1
end F133
namespace F132
def cons : List (Nat × Con) := [(133, F133.c)]
def exts : List (Nat × Ext) := []
def h : List (Nat × Nat × Hint) := [(132, 3, { live := [0, 2, 3, 7] })]
def q0_ : PO := (.var (.array 64 139) (.d (.array 64 139) .x))
noncomputable def e (M : Nat) : Env := env cons exts h M
structure S3 where
  (s1 : ByteArray) (i2 : Int) (d3 d4 : D)
inductive X3 where
  | e0 (s1 : ByteArray) (i2 : Int) (d3 d4 : D)
def st3 (M : Nat) : S3 → (S3 → Option D) → (X3 → Option D) → Option D
  | ⟨s1, i2, d3, d4⟩, rec, K => (cond (ltI i2 64) (cond (ltI i2 16) (cond (inb (ml .i64 4 i2) s1.size) (cond (inb (ad .i64 (ml .i64 4 i2) 1) s1.size) (cond (inb (ad .i64 (ml .i64 4 i2) 2) s1.size) (cond (inb (ad .i64 (ml .i64 4 i2) 3) s1.size) (cond (inb i2 64) (rec ⟨s1, (ad .i64 i2 1), d3, (D.agg (d4.parts.set i2.toNat (D.int .u32 (orI .u32 (orI .u32 (orI .u32 (shlI .u32 (cv .u32 (byteAt s1 (ml .i64 4 i2).toNat)) 24) (shlI .u32 (cv .u32 (byteAt s1 (ad .i64 (ml .i64 4 i2) 1).toNat)) 16)) (shlI .u32 (cv .u32 (byteAt s1 (ad .i64 (ml .i64 4 i2) 2).toNat)) 8)) (cv .u32 (byteAt s1 (ad .i64 (ml .i64 4 i2) 3).toNat))))))⟩) none) none) none) none) none) (cond (inb (sb .i64 i2 15) 64) (cond (inb (sb .i64 i2 2) 64) (cond (inb (sb .i64 i2 16) 64) (bd (F133.s FUEL (d4.at (sb .i64 i2 15).toNat).i 7) fun r5 => (bd (F133.s FUEL (d4.at (sb .i64 i2 15).toNat).i 18) fun r6 => (cond (inb (sb .i64 i2 7) 64) (bd (F133.s FUEL (d4.at (sb .i64 i2 2).toNat).i 17) fun r7 => (bd (F133.s FUEL (d4.at (sb .i64 i2 2).toNat).i 19) fun r8 => (cond (inb i2 64) (rec ⟨s1, (ad .i64 i2 1), d3, (D.agg (d4.parts.set i2.toNat (D.int .u32 (ad .u32 (ad .u32 (ad .u32 (d4.at (sb .i64 i2 16).toNat).i (xorI .u32 (xorI .u32 r5.i r6.i) (shrI .u32 (d4.at (sb .i64 i2 15).toNat).i 3))) (d4.at (sb .i64 i2 7).toNat).i) (xorI .u32 (xorI .u32 r7.i r8.i) (shrI .u32 (d4.at (sb .i64 i2 2).toNat).i 10))))))⟩) none))) none))) none) none) none)) (K (.e0 s1 i2 d3 d4)))
def lv3 : S3 → List Leaf
  | ⟨s1, i2, d3, d4⟩ => [.s s1, .i i2, .d d3, .d d4]
def of3 : List Leaf → Option S3
  | [.s s1, .i i2, .d d3, .d d4] => some ⟨s1, i2, d3, d4⟩
  | _ => none
def ex3 (k : Kont) : X3 → Option D
  | .e0 s1 i2 d3 d4 => k (.exit 0) ((vS s1) :: (us 1 ((.ptr 0 [] (.array 64 139)) :: (.ptr 1 [] (.array 64 139)) :: (us 3 ((vi i2) :: (vb (ltI i2 64)) :: (us 73 [])))))) [(.var (.array 64 139) (vk (.array 64 139) d3)), (.var (.array 64 139) (vk (.array 64 139) d4))]
def ps3 : List PV := ((.d .str .str) :: (up 1 ((.ptr 0 [] (.array 64 139)) :: (.ptr 1 [] (.array 64 139)) :: (up 3 ((.d (.int .i64) (.int .i64)) :: (up 74 []))))))
def qs3 : List PO := [q0_, q0_]
noncomputable def t (M : Nat) : List Ent := ⟨132, 11, 0, 3, sumS [0, 2, 3, 7] ps3 qs3 [] of3 (st3 M) ex3 M⟩ :: []
theorem t_ok (M : Nat) : AllOk (e M) (tblOf (t M)) := AllOk.addS (n0 := 2) (lv := lv3) AllOk.nil (by kernel_rfl) rfl (by intro ls s h; unfold of3 at h; (repeat' split at h) <;> simp at h; subst h; rfl) (by intro s; kernel_rfl) (by intro s; kernel_rfl) (by intro s nx k; kernel_rfl)
def s (M : Nat) (p0 : ByteArray) : Option D :=
  (goS (st3 M) M ⟨p0, 0, (da (rp 64 (D.int .u32 0))), (da (rp 64 (D.int .u32 0)))⟩ fun x => match x with | .e0 s1 i2 d3 d4 => (some d4))
theorem run (M : Nat) (p0 : ByteArray) : callS (e M) (tblOf (t M)) 12 (.fn 132) [.d .str (dS p0)] [] (fun v H => finish ty [141] v H) = s M p0 := by kernel_rfl
def c : Con := { run := fun ds => match ds with | [p0] => s FUEL p0.s | _ => none, plain := true }
theorem ok : ConOk (132, c) := mkC Tryz.f132 [.str] [141] (by kernel_rfl) (by kernel_rfl) (by kernel_rfl) (by kernel_rfl) (allCons F133.ok allNil) allNil (t_ok FUEL) fun a => run FUEL a.1
end F132
namespace F89
def cons : List (Nat × Con) := [(132, F132.c), (133, F133.c)]
def exts : List (Nat × Ext) := []
def h : List (Nat × Nat × Hint) := [(89, 1, { own := true }), (89, 3, { live := [3, 4, 6, 7, 17, 18] }), (89, 13, { live := [3, 6, 7, 91] })]
def q0_ : PO := (.var (.array 8 139) (.d (.array 8 139) (.agg [(.int .u32), (.int .u32), (.int .u32), (.int .u32), (.int .u32), (.int .u32), (.int .u32), (.int .u32)])))
def q1_ : PO := (.var (.array 64 139) (.d (.array 64 139) .x))
def q2_ : PO := (.var (.array 8 139) (.d (.array 8 139) .x))
noncomputable def e (M : Nat) : Env := env cons exts h M
structure S3 where
  (d2 : D) (i3 : Int) (d4 d5 : D) (i6 i7 i8 i9 i10 i11 i12 i13 : Int) (b14 : Bool) (l15 : List D)
inductive X3 where
  | e0 (d2 : D) (i3 : Int) (d4 d5 : D) (i6 i7 i8 i9 i10 i11 i12 i13 : Int) (b14 : Bool) (l15 : List D)
def st3 (M : Nat) : S3 → (S3 → Option D) → (X3 → Option D) → Option D
  | ⟨d2, i3, d4, d5, i6, i7, i8, i9, i10, i11, i12, i13, b14, l15⟩, rec, K => (cond (ltI i3 64) (cond (inb i3 64) (bd (F133.s FUEL (ix l15 4).i 6) fun r16 => (bd (F133.s FUEL (ix l15 4).i 11) fun r17 => (bd (F133.s FUEL (ix l15 4).i 25) fun r18 => (cond (inb i3 64) (bd (F133.s FUEL (ix l15 0).i 2) fun r19 => (bd (F133.s FUEL (ix l15 0).i 13) fun r20 => (bd (F133.s FUEL (ix l15 0).i 22) fun r21 => (cond (true && true && true && (Nat.beq l15.length 8)) (cond (true && true && true && (Nat.beq l15.length 8)) (rec ⟨d2, (ad .i64 i3 1), d4, d5, i6, i7, i8, i9, i10, i11, i12, i13, b14, (((ap (ap (l15.take 1) (((l15.drop 0).take 7).take (min ((l15.drop 0).take 7).length 7))) (l15.drop (1 + (min ((l15.drop 0).take 7).length 7)))).set 0 (D.int .u32 (ad .u32 (ad .u32 (ad .u32 (ad .u32 (ad .u32 (ix l15 7).i (xorI .u32 (xorI .u32 r16.i r17.i) r18.i)) (xorI .u32 (andI .u32 (ix l15 4).i (ix l15 5).i) (andI .u32 (notI .u32 (ix l15 4).i) (ix l15 6).i))) (d5.at i3.toNat).i) (d2.at i3.toNat).i) (ad .u32 (xorI .u32 (xorI .u32 r19.i r20.i) r21.i) (xorI .u32 (xorI .u32 (andI .u32 (ix l15 0).i (ix l15 1).i) (andI .u32 (ix l15 0).i (ix l15 2).i)) (andI .u32 (ix l15 1).i (ix l15 2).i)))))).set 4 (D.int .u32 (ad .u32 (ix ((ap (ap (l15.take 1) (((l15.drop 0).take 7).take (min ((l15.drop 0).take 7).length 7))) (l15.drop (1 + (min ((l15.drop 0).take 7).length 7)))).set 0 (D.int .u32 (ad .u32 (ad .u32 (ad .u32 (ad .u32 (ad .u32 (ix l15 7).i (xorI .u32 (xorI .u32 r16.i r17.i) r18.i)) (xorI .u32 (andI .u32 (ix l15 4).i (ix l15 5).i) (andI .u32 (notI .u32 (ix l15 4).i) (ix l15 6).i))) (d5.at i3.toNat).i) (d2.at i3.toNat).i) (ad .u32 (xorI .u32 (xorI .u32 r19.i r20.i) r21.i) (xorI .u32 (xorI .u32 (andI .u32 (ix l15 0).i (ix l15 1).i) (andI .u32 (ix l15 0).i (ix l15 2).i)) (andI .u32 (ix l15 1).i (ix l15 2).i)))))) 4).i (ad .u32 (ad .u32 (ad .u32 (ad .u32 (ix l15 7).i (xorI .u32 (xorI .u32 r16.i r17.i) r18.i)) (xorI .u32 (andI .u32 (ix l15 4).i (ix l15 5).i) (andI .u32 (notI .u32 (ix l15 4).i) (ix l15 6).i))) (d5.at i3.toNat).i) (d2.at i3.toNat).i))))⟩) none) none)))) none)))) none) (K (.e0 d2 i3 d4 d5 i6 i7 i8 i9 i10 i11 i12 i13 b14 l15)))
def lv3 : S3 → List Leaf
  | ⟨d2, i3, d4, d5, i6, i7, i8, i9, i10, i11, i12, i13, b14, l15⟩ => [.d d2, .i i3, .d d4, .d d5, .i i6, .i i7, .i i8, .i i9, .i i10, .i i11, .i i12, .i i13, .b b14, .l l15]
def of3 : List Leaf → Option S3
  | [.d d2, .i i3, .d d4, .d d5, .i i6, .i i7, .i i8, .i i9, .i i10, .i i11, .i i12, .i i13, .b b14, .l l15] => some ⟨d2, i3, d4, d5, i6, i7, i8, i9, i10, i11, i12, i13, b14, l15⟩
  | _ => none
def ex3 (k : Kont) : X3 → Option D
  | .e0 d2 i3 d4 d5 i6 i7 i8 i9 i10 i11 i12 i13 b14 l15 => k (.exit 0) ((us 3 ((.ptr 0 [] (.array 8 139)) :: (.ptr 1 [] (.array 64 139)) :: (us 1 ((.ptr 2 [] (.array 8 139)) :: (.ptr 3 [] (.array 8 139)) :: (us 9 ((vk (.array 64 139) d2) :: (vi i3) :: (vb (ltI i3 64)) :: (us 84 [])))))))) [(.var (.array 8 139) (vk (.array 8 139) d4)), (.var (.array 64 139) (vk (.array 64 139) d5)), (.var (.array 8 139) (vk (.array 8 139) (da [(D.int .u32 i6), (D.int .u32 i7), (D.int .u32 i8), (D.int .u32 i9), (D.int .u32 i10), (D.int .u32 i11), (D.int .u32 i12), (D.int .u32 i13)]))), (.row 139 true b14 l15)]
def ps3 : List PV := ((up 3 ((.ptr 0 [] (.array 8 139)) :: (.ptr 1 [] (.array 64 139)) :: (up 1 ((.ptr 2 [] (.array 8 139)) :: (.ptr 3 [] (.array 8 139)) :: (up 9 ((.d (.array 64 139) .x) :: (.d (.int .i64) (.int .i64)) :: (up 85 []))))))))
def qs3 : List PO := [q2_, q1_, q0_, (.row 139 true)]
noncomputable def t1 (M : Nat) : List Ent := ⟨89, 11, 0, 3, sumS [3, 4, 6, 7, 17, 18] ps3 qs3 [] of3 (st3 M) ex3 M⟩ :: []
theorem t1_ok (M : Nat) : AllOk (e M) (tblOf (t1 M)) := AllOk.addS (n0 := 4) (lv := lv3) AllOk.nil (by kernel_rfl) rfl (by intro ls s h; unfold of3 at h; (repeat' split at h) <;> simp at h; subst h; rfl) (by intro s; kernel_rfl) (by intro s; kernel_rfl) (by intro s nx k; kernel_rfl)
structure S13 where
  (i22 : Int) (d23 d24 : D) (i25 i26 i27 i28 i29 i30 i31 i32 : Int) (b33 : Bool) (l34 : List D)
inductive X13 where
  | e0 (i22 : Int) (d23 d24 : D) (i25 i26 i27 i28 i29 i30 i31 i32 : Int) (b33 : Bool) (l34 : List D)
def st13 (M : Nat) : S13 → (S13 → Option D) → (X13 → Option D) → Option D
  | ⟨i22, d23, d24, i25, i26, i27, i28, i29, i30, i31, i32, b33, l34⟩, rec, K => (cond (ltI i22 8) (cond (inb i22 8) (cond (inb i22 8) (cond (inb i22 8) (rec ⟨(ad .i64 i22 1), (D.agg (d23.parts.set i22.toNat (D.int .u32 (ad .u32 (d23.at i22.toNat).i (ix l34 i22.toNat).i)))), d24, i25, i26, i27, i28, i29, i30, i31, i32, b33, l34⟩) none) none) none) (K (.e0 i22 d23 d24 i25 i26 i27 i28 i29 i30 i31 i32 b33 l34)))
def lv13 : S13 → List Leaf
  | ⟨i22, d23, d24, i25, i26, i27, i28, i29, i30, i31, i32, b33, l34⟩ => [.i i22, .d d23, .d d24, .i i25, .i i26, .i i27, .i i28, .i i29, .i i30, .i i31, .i i32, .b b33, .l l34]
def of13 : List Leaf → Option S13
  | [.i i22, .d d23, .d d24, .i i25, .i i26, .i i27, .i i28, .i i29, .i i30, .i i31, .i i32, .b b33, .l l34] => some ⟨i22, d23, d24, i25, i26, i27, i28, i29, i30, i31, i32, b33, l34⟩
  | _ => none
def ex13 (k : Kont) : X13 → Option D
  | .e0 i22 d23 d24 i25 i26 i27 i28 i29 i30 i31 i32 b33 l34 => k (.exit 2) ((us 3 ((.ptr 0 [] (.array 8 139)) :: (us 2 ((.ptr 2 [] (.array 8 139)) :: (.ptr 3 [] (.array 8 139)) :: (us 83 ((vi i22) :: (vb (ltI i22 8)) :: (us 11 [])))))))) [(.var (.array 8 139) (vk (.array 8 139) d23)), (.var (.array 64 139) (vk (.array 64 139) d24)), (.var (.array 8 139) (vk (.array 8 139) (da [(D.int .u32 i25), (D.int .u32 i26), (D.int .u32 i27), (D.int .u32 i28), (D.int .u32 i29), (D.int .u32 i30), (D.int .u32 i31), (D.int .u32 i32)]))), (.row 139 true b33 l34)]
def ps13 : List PV := ((up 3 ((.ptr 0 [] (.array 8 139)) :: (up 2 ((.ptr 2 [] (.array 8 139)) :: (.ptr 3 [] (.array 8 139)) :: (up 83 ((.d (.int .i64) (.int .i64)) :: (up 12 []))))))))
def qs13 : List PO := [q2_, q1_, q0_, (.row 139 true)]
noncomputable def t (M : Nat) : List Ent := ⟨89, 11, 0, 13, sumS [3, 6, 7, 91] ps13 qs13 [] of13 (st13 M) ex13 M⟩ :: t1 M
theorem t_ok (M : Nat) : AllOk (e M) (tblOf (t M)) := AllOk.addS (n0 := 4) (lv := lv13) (t1_ok M) (by kernel_rfl) rfl (by intro ls s h; unfold of13 at h; (repeat' split at h) <;> simp at h; subst h; rfl) (by intro s; kernel_rfl) (by intro s; kernel_rfl) (by intro s nx k; kernel_rfl)
def s (M : Nat) (p0 : D) (p1 : D) (p2 : ByteArray) : Option D :=
  (cond (Nat.beq p0.parts.length 8) (bd (F132.s FUEL p2) fun r1 => (goS (st3 M) M ⟨r1, 0, p0, p1, 0, 0, 0, 0, 0, 0, 0, 0, true, p0.parts⟩ fun x => match x with | .e0 d2 i3 d4 d5 i6 i7 i8 i9 i10 i11 i12 i13 b14 l15 => (goS (st13 M) M ⟨0, d4, d5, i6, i7, i8, i9, i10, i11, i12, i13, b14, l15⟩ fun x => match x with | .e0 i22 d23 d24 i25 i26 i27 i28 i29 i30 i31 i32 b33 l34 => (some d23)))) none)
theorem run (M : Nat) (p0 : D) (p1 : D) (p2 : ByteArray) : callS (e M) (tblOf (t M)) 12 (.fn 89) [.d (.array 8 139) p0, .d (.array 64 139) p1, .d .str (dS p2)] [] (fun v H => finish ty [140] v H) = s M p0 p1 p2 := by kernel_rfl
def c : Con := { run := fun ds => match ds with | [p0, p1, p2] => s FUEL p0 p1 p2.s | _ => none, plain := true }
theorem ok : ConOk (89, c) := mkC Tryz.f89 [(.array 8 139), (.array 64 139), .str] [140] (by kernel_rfl) (by kernel_rfl) (by kernel_rfl) (by kernel_rfl) (allCons F132.ok (allCons F133.ok allNil)) allNil (t_ok FUEL) fun a => run FUEL a.1 a.2.1 a.2.2.1
end F89
namespace F42
def cons : List (Nat × Con) := [(87, F87.c), (88, F88.c), (89, F89.c)]
def exts : List (Nat × Ext) := []
def h : List (Nat × Nat × Hint) := [(42, 3, { live := [2, 3, 4, 5] }), (42, 8, { live := [2, 3, 6, 24] })]
def q0_ : PO := (.var (.array 64 139) (.d (.array 64 139) .x))
def q1_ : PO := (.var (.array 8 139) (.d (.array 8 139) .x))
def q2_ : PO := (.var (.array 32 5) (.d (.array 32 5) .x))
noncomputable def e (M : Nat) : Env := env cons exts h M
structure S3 where
  (d3 d4 d5 d6 : D)
inductive X3 where
  | e0 (d3 d4 d5 d6 : D)
def st3 (M : Nat) : S3 → (S3 → Option D) → (X3 → Option D) → Option D
  | ⟨d3, d4, d5, d6⟩, rec, K => (cond (gtI (nI d3.s.size) 0) (cond (true && true && (leI 64 (nI d3.s.size)) && (leI (nI d3.s.size) (nI d3.s.size))) (bd (F89.s FUEL d5 d6 (d3.s.extract 0 64)) fun r7 => (cond (true && (leI 64 (nI d3.s.size)) && (leI (nI d3.s.size) (nI d3.s.size)) && (leI (nI d3.s.size) (nI d3.s.size))) (rec ⟨(dS (d3.s.extract 64 d3.s.size)), d4, r7, d6⟩) none)) none) (K (.e0 d3 d4 d5 d6)))
def lv3 : S3 → List Leaf
  | ⟨d3, d4, d5, d6⟩ => [.d d3, .d d4, .d d5, .d d6]
def of3 : List Leaf → Option S3
  | [.d d3, .d d4, .d d5, .d d6] => some ⟨d3, d4, d5, d6⟩
  | _ => none
def ex3 (k : Kont) : X3 → Option D
  | .e0 d3 d4 d5 d6 => k (.exit 0) ((us 2 ((.ptr 0 [] (.array 32 5)) :: (.ptr 1 [] (.array 8 139)) :: (.ptr 2 [] (.array 64 139)) :: (vk .str d3) :: (us 8 ((vk .str d3) :: (vi (nI d3.s.size)) :: (vb (gtI (nI d3.s.size) 0)) :: (us 24 [])))))) [(.var (.array 32 5) (vk (.array 32 5) d4)), (.var (.array 8 139) (vk (.array 8 139) d5)), (.var (.array 64 139) (vk (.array 64 139) d6))]
def ps3 : List PV := ((up 2 ((.ptr 0 [] (.array 32 5)) :: (.ptr 1 [] (.array 8 139)) :: (.ptr 2 [] (.array 64 139)) :: (.d .str .x) :: (up 35 []))))
def qs3 : List PO := [q2_, q1_, q0_]
noncomputable def t1 (M : Nat) : List Ent := ⟨42, 11, 0, 3, sumS [2, 3, 4, 5] ps3 qs3 [] of3 (st3 M) ex3 M⟩ :: []
theorem t1_ok (M : Nat) : AllOk (e M) (tblOf (t1 M)) := AllOk.addS (n0 := 3) (lv := lv3) AllOk.nil (by kernel_rfl) rfl (by intro ls s h; unfold of3 at h; (repeat' split at h) <;> simp at h; subst h; rfl) (by intro s; kernel_rfl) (by intro s; kernel_rfl) (by intro s nx k; kernel_rfl)
structure S8 where
  (i8 : Int) (d9 d10 d11 d12 : D)
inductive X8 where
  | e0 (i8 : Int) (d9 d10 d11 d12 : D)
def st8 (M : Nat) : S8 → (S8 → Option D) → (X8 → Option D) → Option D
  | ⟨i8, d9, d10, d11, d12⟩, rec, K => (cond (ltI i8 32) (cond (inb (quoI .i64 i8 4) 8) (bd (if (sb .i64 24 (ml .i64 8 (remI i8 4))) < 0 then none else some (.int .u32 (shrI .u32 (d10.at (quoI .i64 i8 4).toNat).i (sb .i64 24 (ml .i64 8 (remI i8 4))).toNat))) fun r13 => (cond (inb i8 32) (rec ⟨(ad .i64 i8 1), d9, d10, d11, (D.agg (d12.parts.set i8.toNat (D.int .u8 (cv .u8 r13.i))))⟩) none)) none) (K (.e0 i8 d9 d10 d11 d12)))
def lv8 : S8 → List Leaf
  | ⟨i8, d9, d10, d11, d12⟩ => [.i i8, .d d9, .d d10, .d d11, .d d12]
def of8 : List Leaf → Option S8
  | [.i i8, .d d9, .d d10, .d d11, .d d12] => some ⟨i8, d9, d10, d11, d12⟩
  | _ => none
def ex8 (k : Kont) : X8 → Option D
  | .e0 i8 d9 d10 d11 d12 => k (.exit 2) ((us 2 ((.ptr 0 [] (.array 32 5)) :: (.ptr 1 [] (.array 8 139)) :: (us 2 ((.ptr 3 [] (.array 32 5)) :: (us 17 ((vi i8) :: (vb (ltI i8 32)) :: (us 15 [])))))))) [(.var (.array 32 5) (vk (.array 32 5) d9)), (.var (.array 8 139) (vk (.array 8 139) d10)), (.var (.array 64 139) (vk (.array 64 139) d11)), (.var (.array 32 5) (vk (.array 32 5) d12))]
def ps8 : List PV := ((up 2 ((.ptr 0 [] (.array 32 5)) :: (.ptr 1 [] (.array 8 139)) :: (up 2 ((.ptr 3 [] (.array 32 5)) :: (up 17 ((.d (.int .i64) (.int .i64)) :: (up 16 []))))))))
def qs8 : List PO := [q2_, q1_, q0_, q2_]
noncomputable def t (M : Nat) : List Ent := ⟨42, 11, 0, 8, sumS [2, 3, 6, 24] ps8 qs8 [] of8 (st8 M) ex8 M⟩ :: t1 M
theorem t_ok (M : Nat) : AllOk (e M) (tblOf (t M)) := AllOk.addS (n0 := 4) (lv := lv8) (t1_ok M) (by kernel_rfl) rfl (by intro ls s h; unfold of8 at h; (repeat' split at h) <;> simp at h; subst h; rfl) (by intro s; kernel_rfl) (by intro s; kernel_rfl) (by intro s nx k; kernel_rfl)
def s (M : Nat) (p0 : ByteArray) : Option D :=
  (bd (F87.s FUEL) fun r1 => (bd (F88.s FUEL p0) fun r2 => (goS (st3 M) M ⟨r2, (da (rp 32 (D.int .u8 0))), (r1.at 0), (r1.at 1)⟩ fun x => match x with | .e0 d3 d4 d5 d6 => (goS (st8 M) M ⟨0, d4, d5, d6, (da (rp 32 (D.int .u8 0)))⟩ fun x => match x with | .e0 i8 d9 d10 d11 d12 => (some d12)))))
theorem run (M : Nat) (p0 : ByteArray) : callS (e M) (tblOf (t M)) 12 (.fn 42) [.d .str (dS p0)] [] (fun v H => finish ty [56] v H) = s M p0 := by kernel_rfl
def c : Con := { run := fun ds => match ds with | [p0] => s FUEL p0.s | _ => none, plain := true }
theorem ok : ConOk (42, c) := mkC Tryz.f42 [.str] [56] (by kernel_rfl) (by kernel_rfl) (by kernel_rfl) (by kernel_rfl) (allCons F87.ok (allCons F88.ok (allCons F89.ok allNil))) allNil (t_ok FUEL) fun a => run FUEL a.1
end F42
namespace F139
def cons : List (Nat × Con) := [(42, F42.c)]
def exts : List (Nat × Ext) := []
def h : List (Nat × Nat × Hint) := []
noncomputable def e (M : Nat) : Env := env cons exts h M
def s (M : Nat) (p0 : D) (p1 : D) : Option D :=
  (cond (eqI (p1.at 0).i 1) (some (da [(p1.at 0), (p0.at 0), (dS (bs [])), (di 0), (di (nI (p1.at 2).s.size)), (da (rp 32 (D.int .u8 0)))])) (cond (eqI (p1.at 0).i 2) (bd (F42.s FUEL (p0.at 2).s) fun r1 => (some (da [(p1.at 0), (p0.at 0), (dS (bs [])), (p1.at 3), (di (nI (p0.at 2).s.size)), r1]))) (cond (eqI (p1.at 0).i 3) (some (da [(p1.at 0), (p0.at 0), (dS (bs [])), (p1.at 3), (di 0), (da (rp 32 (D.int .u8 0)))])) (cond (eqI (p1.at 0).i 4) (cond (eqI (p1.at 0).i 4) (some (da [(p1.at 0), (p0.at 0), (p1.at 2), (di 0), (di 0), (da (rp 32 (D.int .u8 0)))])) (some (da [(p1.at 0), (p0.at 0), (dS (bs [])), (di 0), (di 0), (da (rp 32 (D.int .u8 0)))]))) (cond (eqI (p1.at 0).i 5) (some (da [(p1.at 0), (p0.at 0), (p1.at 2), (di 0), (di 0), (da (rp 32 (D.int .u8 0)))])) (some (da [(p1.at 0), (p0.at 0), (dS (bs [])), (di 0), (di 0), (da (rp 32 (D.int .u8 0)))])))))))
theorem run (M : Nat) (p0 : D) (p1 : D) : callS (e M) (tblOf []) 12 (.fn 139) [.d (.struct [3, 9, 9, 4, 3, 37]) p0, .d (.struct [50, 9, 9, 3, 3, 3]) p1] [] (fun v H => finish ty [58] v H) = s M p0 p1 := by kernel_rfl
def c : Con := { run := fun ds => match ds with | [p0, p1] => s FUEL p0 p1 | _ => none, plain := true }
theorem ok : ConOk (139, c) := mkC Tryz.f139 [(.struct [3, 9, 9, 4, 3, 37]), (.struct [50, 9, 9, 3, 3, 3])] [58] (by kernel_rfl) (by kernel_rfl) (by kernel_rfl) (by kernel_rfl) (allCons F42.ok allNil) allNil AllOk.nil fun a => run FUEL a.1 a.2.1
end F139
namespace F108
def cons : List (Nat × Con) := [(76, F76.c), (79, F79.c), (81, F81.c), (83, F83.c), (85, F85.c), (138, F138.c), (139, F139.c), (148, F148.c)]
def exts : List (Nat × Ext) := []
def h : List (Nat × Nat × Hint) := []
noncomputable def e (M : Nat) : Env := env cons exts h M
def s (M : Nat) (p0 : D) (p1 : D) (p2 : Int) : Option D :=
  (cond (eqI (p1.at 0).i 1) (cond (eqI (p1.at 0).i 0) (some (D.tup [p0, (da [(di 0), (di 0), (dS (bs [])), (di 0), (di 0), (da (rp 32 (D.int .u8 0)))]), (di 4)])) (cond (eqI (p1.at 0).i 6) none (bd (F148.s FUEL p0 (p1.at 2).s) fun r1 => (cond (neI (r1.at 1).i 0) (some (D.tup [p0, (da [(di 0), (di 0), (dS (bs [])), (di 0), (di 0), (da (rp 32 (D.int .u8 0)))]), (r1.at 1)])) (bd (F139.s FUEL p0 p1) fun r2 => (some (D.tup [(r1.at 0), r2, (di 0)]))))))) (cond (eqI (p1.at 0).i 4) (cond (eqI (p1.at 0).i 0) (some (D.tup [p0, (da [(di 0), (di 0), (dS (bs [])), (di 0), (di 0), (da (rp 32 (D.int .u8 0)))]), (di 4)])) (cond (eqI (p1.at 0).i 6) none (bd (F81.s FUEL p0 (p1.at 2).s) fun r3 => (cond (neI (r3.at 1).i 0) (some (D.tup [p0, (da [(di 0), (di 0), (dS (bs [])), (di 0), (di 0), (da (rp 32 (D.int .u8 0)))]), (r3.at 1)])) (bd (F139.s FUEL p0 p1) fun r4 => (some (D.tup [(r3.at 0), r4, (di 0)]))))))) (cond (eqI (p1.at 0).i 5) (cond (eqI (p1.at 0).i 0) (some (D.tup [p0, (da [(di 0), (di 0), (dS (bs [])), (di 0), (di 0), (da (rp 32 (D.int .u8 0)))]), (di 4)])) (cond (eqI (p1.at 0).i 6) none (bd (F83.s FUEL p0 (p1.at 2).s) fun r5 => (cond (neI (r5.at 1).i 0) (some (D.tup [p0, (da [(di 0), (di 0), (dS (bs [])), (di 0), (di 0), (da (rp 32 (D.int .u8 0)))]), (r5.at 1)])) (bd (F139.s FUEL p0 p1) fun r6 => (some (D.tup [(r5.at 0), r6, (di 0)]))))))) (cond (eqI (p1.at 0).i 2) (cond (eqI (p1.at 0).i 0) (some (D.tup [p0, (da [(di 0), (di 0), (dS (bs [])), (di 0), (di 0), (da (rp 32 (D.int .u8 0)))]), (di 4)])) (cond (eqI (p1.at 0).i 6) none (bd (F76.s FUEL p0 (p1.at 3).i) fun r7 => (cond (neI (r7.at 1).i 0) (some (D.tup [p0, (da [(di 0), (di 0), (dS (bs [])), (di 0), (di 0), (da (rp 32 (D.int .u8 0)))]), (r7.at 1)])) (bd (F139.s FUEL p0 p1) fun r8 => (some (D.tup [(r7.at 0), r8, (di 0)]))))))) (cond (eqI (p1.at 0).i 3) (cond (eqI (p1.at 0).i 0) (some (D.tup [p0, (da [(di 0), (di 0), (dS (bs [])), (di 0), (di 0), (da (rp 32 (D.int .u8 0)))]), (di 4)])) (cond (eqI (p1.at 0).i 6) none (bd (F79.s FUEL p0 (p1.at 3).i) fun r9 => (cond (neI (r9.at 1).i 0) (some (D.tup [p0, (da [(di 0), (di 0), (dS (bs [])), (di 0), (di 0), (da (rp 32 (D.int .u8 0)))]), (r9.at 1)])) (bd (F139.s FUEL p0 p1) fun r10 => (some (D.tup [(r9.at 0), r10, (di 0)]))))))) (cond (eqI (p1.at 0).i 6) (cond (eqI (p1.at 0).i 0) (some (D.tup [p0, (da [(di 0), (di 0), (dS (bs [])), (di 0), (di 0), (da (rp 32 (D.int .u8 0)))]), (di 4)])) (cond (eqI (p1.at 0).i 6) (bd (F85.s FUEL p0 p2) fun r11 => (cond (neI r11.i 0) (some (D.tup [p0, (da [(di 0), (di 0), (dS (bs [])), (di 0), (di 0), (da (rp 32 (D.int .u8 0)))]), r11])) (bd (F139.s FUEL p0 p1) fun r12 => (some (D.tup [(da [(di 0), (dS (bs [])), (dS (bs [])), (db false), (di 0), (dl false [])]), r12, (di 0)]))))) none)) (cond (eqI (p1.at 0).i 0) (some (D.tup [p0, (da [(di 0), (di 0), (dS (bs [])), (di 0), (di 0), (da (rp 32 (D.int .u8 0)))]), (di 4)])) (some (D.tup [p0, (da [(di 0), (di 0), (dS (bs [])), (di 0), (di 0), (da (rp 32 (D.int .u8 0)))]), (di 1)])))))))))
theorem run (M : Nat) (p0 : D) (p1 : D) (p2 : Int) : callS (e M) (tblOf []) 12 (.fn 108) [.d (.struct [3, 9, 9, 4, 3, 37]) p0, .d (.struct [50, 9, 9, 3, 3, 3]) p1, .d (.int .i64) (di p2)] [] (fun v H => finish ty [39, 58, 36] v H) = s M p0 p1 p2 := by kernel_rfl
def c : Con := { run := fun ds => match ds with | [p0, p1, p2] => s FUEL p0 p1 p2.i | _ => none }
theorem ok : ConOk (108, c) := mkC Tryz.f108 [(.struct [3, 9, 9, 4, 3, 37]), (.struct [50, 9, 9, 3, 3, 3]), (.int .i64)] [39, 58, 36] (by kernel_rfl) (by kernel_rfl) (by kernel_rfl) (by kernel_rfl) (allCons F76.ok (allCons F79.ok (allCons F81.ok (allCons F83.ok (allCons F85.ok (allCons F138.ok (allCons F139.ok (allCons F148.ok allNil)))))))) allNil AllOk.nil fun a => run FUEL a.1 a.2.1 a.2.2.1
end F108
namespace F110
def cons : List (Nat × Con) := []
def exts : List (Nat × Ext) := []
def h : List (Nat × Nat × Hint) := []
noncomputable def e (M : Nat) : Env := env cons exts h M
def s (M : Nat) (p0 : Int) (p1 : Int) : Option D :=
  (some (di (maxi p0 (mini (maxi p1 0) 1099511627776))))
theorem run (M : Nat) (p0 : Int) (p1 : Int) : callS (e M) (tblOf []) 12 (.fn 110) [.d (.int .i64) (di p0), .d (.int .i64) (di p1)] [] (fun v H => finish ty [3] v H) = s M p0 p1 := by kernel_rfl
def c : Con := { run := fun ds => match ds with | [p0, p1] => s FUEL p0.i p1.i | _ => none, plain := true }
theorem ok : ConOk (110, c) := mkC Tryz.f110 [(.int .i64), (.int .i64)] [3] (by kernel_rfl) (by kernel_rfl) (by kernel_rfl) (by kernel_rfl) allNil allNil AllOk.nil fun a => run FUEL a.1 a.2.1
end F110
namespace F111
def cons : List (Nat × Con) := [(85, F85.c)]
def exts : List (Nat × Ext) := []
def h : List (Nat × Nat × Hint) := [(111, 4, { live := [5] }), (149, 1, { live := [0, 2, 6, 7, 8], rows := [(1048576, 3)] })]
noncomputable def e (M : Nat) : Env := env cons exts h M
structure S149_1 where
  (d1 : D) (i2 i3 : Int) (n4 n5 : Nat) (d6 : D) (i7 : Int) (b8 : Bool) (l9 : List D)
inductive X149_1 where
  | e0 (d1 : D) (i2 i3 : Int) (n4 n5 : Nat) (d6 : D) (i7 : Int) (b8 : Bool) (l9 : List D)
def st149_1 (M : Nat) : S149_1 → (S149_1 → Option D) → (X149_1 → Option D) → Option D
  | ⟨d1, i2, i3, n4, n5, d6, i7, b8, l9⟩, rec, K => (cond (ltI i3 i2) (cond (inb i3 d1.elems.length) (bd (F85.s FUEL (ix d1.elems i3.toNat) i7) fun r10 => (cond (eqI r10.i 0) (cond (mx (n5 + 1)) (rec ⟨d1, i2, (ad .i64 i3 1), 0, (n5 + 1), d6, i7, (b8 || true), (ap ((l9.drop n4).take n5) [((ix d1.elems i3.toNat).at 0)])⟩) none) (rec ⟨d1, i2, (ad .i64 i3 1), n4, n5, d6, i7, b8, l9⟩))) none) (K (.e0 d1 i2 i3 n4 n5 d6 i7 b8 l9)))
def lv149_1 : S149_1 → List Leaf
  | ⟨d1, i2, i3, n4, n5, d6, i7, b8, l9⟩ => [.d d1, .i i2, .i i3, .n n4, .n n5, .d d6, .i i7, .b b8, .l l9]
def of149_1 : List Leaf → Option S149_1
  | [.d d1, .i i2, .i i3, .n n4, .n n5, .d d6, .i i7, .b b8, .l l9] => some ⟨d1, i2, i3, n4, n5, d6, i7, b8, l9⟩
  | _ => none
def ex149_1 (k : Kont) : X149_1 → Option D
  | .e0 d1 i2 i3 n4 n5 d6 i7 b8 l9 => k (.exit 0) ((.yield 3) :: (us 1 ((.ptr 2 [] (.int .i64)) :: (us 3 ((vk (.slice 39) d1) :: (vi i2) :: (vi i3) :: (vb (ltI i3 i2)) :: (us 13 [])))))) [(.var (.slice 3) (.sref 4 n4 n5)), (.var (.slice 39) (vk (.slice 39) d6)), (.var (.int .i64) (vi i7)), (.loop .ready 111 4 (.tup ((us 5 ((.ptr 0 [] (.slice 3)) :: (us 11 [])))))), (.row 3 true b8 l9)]
def ps149_1 : List PV := ((.yield 3) :: (up 1 ((.ptr 2 [] (.int .i64)) :: (up 3 ((.d (.slice 39) .x) :: (.d (.int .i64) (.int .i64)) :: (.d (.int .i64) (.int .i64)) :: (up 14 []))))))
def qs149_1 : List PO := [(.var (.slice 3) (.sref 4)), (.var (.slice 39) (.d (.slice 39) .x)), (.var (.int .i64) (.d (.int .i64) (.int .i64))), (.loop false 111 4 (.tup ((up 5 ((.ptr 0 [] (.slice 3)) :: (up 11 [])))))), (.row 3 true)]
noncomputable def t (M : Nat) : List Ent := ⟨149, 10, 4, 1, sumS [0, 2, 6, 7, 8] ps149_1 qs149_1 [(1048576, 4)] of149_1 (st149_1 M) ex149_1 M⟩ :: []
theorem t_ok (M : Nat) : AllOk (e M) (tblOf (t M)) := AllOk.addS (n0 := 5) (lv := lv149_1) AllOk.nil (by kernel_rfl) rfl (by intro ls s h; unfold of149_1 at h; (repeat' split at h) <;> simp at h; subst h; rfl) (by intro s; kernel_rfl) (by intro s; kernel_rfl) (by intro s nx k; kernel_rfl)
def s (M : Nat) (p0 : D) (p1 : Int) : Option D :=
  (goS (st149_1 M) M ⟨p0, (nI p0.elems.length), 0, 0, 0, p0, p1, false, []⟩ fun x => match x with | .e0 d1 i2 i3 n4 n5 d6 i7 b8 l9 => (cond ((decide (n5 = l9.length)) && (decide (n4 = 0))) (some (.slice b8 l9)) none))
theorem run (M : Nat) (p0 : D) (p1 : Int) : callS (e M) (tblOf (t M)) 12 (.fn 111) [.d (.slice 39) p0, .d (.int .i64) (di p1)] [] (fun v H => finishFresh ty [152] v H) = s M p0 p1 := by kernel_rfl
def c : Con := { run := fun ds => match ds with | [p0, p1] => s FUEL p0 p1.i | _ => none, fresh := true }
theorem ok : ConOk (111, c) := mkF Tryz.f111 [(.slice 39), (.int .i64)] [152] (by kernel_rfl) (by kernel_rfl) (by kernel_rfl) (allCons F85.ok allNil) allNil (t_ok FUEL) fun a => run FUEL a.1 a.2.1
end F111
namespace F114
def cons : List (Nat × Con) := []
def exts : List (Nat × Ext) := []
def h : List (Nat × Nat × Hint) := []
noncomputable def e (M : Nat) : Env := env cons exts h M
def s (M : Nat) (p0 : D) (p1 : Int) (p2 : Int) : Option D :=
  (cond (ltI p1 0) (some (D.tup [(dS (bs [])), (di 1)])) (cond (ltI p2 p1) (some (D.tup [(dS (bs [])), (di 1)])) (cond (gtI p2 (nI (p0.at 2).s.size)) (some (D.tup [(dS (bs [])), (di 1)])) (cond ((leI 0 p1) && (leI p1 p2) && (leI p2 (nI (p0.at 2).s.size)) && (leI (nI (p0.at 2).s.size) (nI (p0.at 2).s.size))) (some (D.tup [(dS ((p0.at 2).s.extract p1.toNat p2.toNat)), (di 0)])) none))))
theorem run (M : Nat) (p0 : D) (p1 : Int) (p2 : Int) : callS (e M) (tblOf []) 12 (.fn 114) [.d (.struct [3, 9, 9, 4, 3, 37]) p0, .d (.int .i64) (di p1), .d (.int .i64) (di p2)] [] (fun v H => finish ty [9, 36] v H) = s M p0 p1 p2 := by kernel_rfl
def c : Con := { run := fun ds => match ds with | [p0, p1, p2] => s FUEL p0 p1.i p2.i | _ => none, plain := true }
theorem ok : ConOk (114, c) := mkC Tryz.f114 [(.struct [3, 9, 9, 4, 3, 37]), (.int .i64), (.int .i64)] [9, 36] (by kernel_rfl) (by kernel_rfl) (by kernel_rfl) (by kernel_rfl) allNil allNil AllOk.nil fun a => run FUEL a.1 a.2.1 a.2.2.1
end F114
namespace F41
def cons : List (Nat × Con) := []
def exts : List (Nat × Ext) := []
def h : List (Nat × Nat × Hint) := []
noncomputable def e (M : Nat) : Env := env cons exts h M
def s (M : Nat) (p0 : D) : Option D :=
  (some (D.agg (p0.parts.set 2 (dS (bs [])))))
theorem run (M : Nat) (p0 : D) : callS (e M) (tblOf []) 12 (.fn 41) [.d (.struct [3, 9, 9, 4, 3, 37]) p0] [] (fun v H => finish ty [39] v H) = s M p0 := by kernel_rfl
def c : Con := { run := fun ds => match ds with | [p0] => s FUEL p0 | _ => none }
theorem ok : ConOk (41, c) := mkC Tryz.f41 [(.struct [3, 9, 9, 4, 3, 37])] [39] (by kernel_rfl) (by kernel_rfl) (by kernel_rfl) (by kernel_rfl) allNil allNil AllOk.nil fun a => run FUEL a.1
end F41
namespace F116
def cons : List (Nat × Con) := [(102, F102.c)]
def exts : List (Nat × Ext) := []
def h : List (Nat × Nat × Hint) := []
noncomputable def e (M : Nat) : Env := env cons exts h M
def s (M : Nat) (p0 : ByteArray) (p1 : ByteArray) : Option D :=
  (bd (F102.s FUEL p0 p1) fun r1 => (cond r1.b (some (di (-1))) (bd (F102.s FUEL p1 p0) fun r2 => (cond r2.b (some (di 1)) (some (di 0))))))
theorem run (M : Nat) (p0 : ByteArray) (p1 : ByteArray) : callS (e M) (tblOf []) 12 (.fn 116) [.d .str (dS p0), .d .str (dS p1)] [] (fun v H => finish ty [3] v H) = s M p0 p1 := by kernel_rfl
def c : Con := { run := fun ds => match ds with | [p0, p1] => s FUEL p0.s p1.s | _ => none, plain := true }
theorem ok : ConOk (116, c) := mkC Tryz.f116 [.str, .str] [3] (by kernel_rfl) (by kernel_rfl) (by kernel_rfl) (by kernel_rfl) (allCons F102.ok allNil) allNil AllOk.nil fun a => run FUEL a.1 a.2.1
end F116
end Go.AM.SZ
namespace Go.AM.SZ
open Go Go.AM
theorem bd_some {x : D} {f : D → Option D} : bd (some x) f = f x := rfl
def w32 (l : List Int) : D := da (l.map (D.int .u32))
theorem w32_set (l : List Int) (i : Nat) (x : Int) : D.agg ((w32 l).parts.set i (D.int .u32 x)) = w32 (l.set i x) := by
  show D.agg ((l.map (D.int .u32)).set i (D.int .u32 x)) = _
  rw [w32, List.map_set]
theorem u64_nonneg (n : Int) : 0 ≤ IntKind.wrap .u64 n := by
  simp [IntKind.wrap, IntKind.signed, IntKind.bits]; omega
theorem right_spec (x n : Int) : ∃ r, F133.s FUEL x n = some (D.int .u32 r) := by
  have h1 : 0 ≤ andI .u64 (cv .u64 (sb .i64 0 n)) 31 := u64_nonneg _
  have h2 : 0 ≤ sb .u64 32 (andI .u64 (cv .u64 (sb .i64 0 n)) 31) := u64_nonneg _
  refine ⟨orI .u32 (shlI .u32 x (andI .u64 (cv .u64 (sb .i64 0 n)) 31).toNat) (shrI .u32 x (sb .u64 32 (andI .u64 (cv .u64 (sb .i64 0 n)) 31)).toNat), ?_⟩
  unfold F133.s F146.s
  rw [if_neg (by omega), if_neg (by omega)]
  rfl
theorem ml64 {a b : Int} (h1 : -9223372036854775808 ≤ a * b) (h2 : a * b ≤ 9223372036854775807) : ml .i64 a b = a * b := by
  have := ad64 (a := a * b) (b := 0) (by omega) (by omega)
  simpa [ad, ml] using this
theorem words_spec (s : ByteArray) (hs : s.size = 64) : ∃ w : List Int, F132.s FUEL s = some (w32 w) ∧ w.length = 64 := by
  unfold F132.s
  refine goS_rule (fun t => ∃ (k : Nat) (d3 : D) (w : List Int), t = ⟨s, (k : Int), d3, w32 w⟩ ∧ k ≤ 64 ∧ w.length = 64) (fun t => 64 - t.i2.toNat) (fun o => ∃ w : List Int, o = some (w32 w) ∧ w.length = 64) ?_ _ _ ⟨0, _, List.replicate 64 0, by rfl, by omega, by simp⟩ (by simp [FUEL])
  rintro _ rec ⟨k, d3, w, rfl, hk, hw⟩ hrec
  simp only [F132.st3]
  by_cases h1 : k < 64
  · rw [show cond (ltI (k : Int) 64) _ _ = _ from ct (by simp; omega) rfl]
    have hadd : ad .i64 (k : Int) 1 = ((k + 1 : Nat) : Int) := by rw [ad64 (by omega) (by omega)]; rfl
    have fin : ∀ x : Int, ∃ w' : List Int, rec ⟨s, ad .i64 (k : Int) 1, d3, D.agg ((w32 w).parts.set (Int.toNat (k : Int)) (D.int .u32 x))⟩ = some (w32 w') ∧ w'.length = 64 := by
      intro x
      rw [hadd, w32_set]
      exact hrec _ ⟨k + 1, d3, _, rfl, by omega, by simpa using hw⟩ (by simp; omega)
    by_cases h2 : k < 16
    · have hm : ml .i64 4 (k : Int) = ((4 * k : Nat) : Int) := by rw [ml64 (by omega) (by omega)]; omega
      have ha : ∀ j : Nat, j ≤ 3 → ad .i64 ((4 * k : Nat) : Int) (j : Int) = ((4 * k + j : Nat) : Int) := fun j hj => by rw [ad64 (by omega) (by omega)]; omega
      rw [show cond (ltI (k : Int) 16) _ _ = _ from ct (by simp; omega) rfl]
      rw [hm, show (1 : Int) = ((1 : Nat) : Int) from rfl, show (2 : Int) = ((2 : Nat) : Int) from rfl, show (3 : Int) = ((3 : Nat) : Int) from rfl, ha 1 (by omega), ha 2 (by omega), ha 3 (by omega)]
      rw [show cond (inb ((4 * k : Nat) : Int) s.size) _ _ = _ from ct (by simp; omega) rfl, show cond (inb ((4 * k + 1 : Nat) : Int) s.size) _ _ = _ from ct (by simp; omega) rfl, show cond (inb ((4 * k + 2 : Nat) : Int) s.size) _ _ = _ from ct (by simp; omega) rfl, show cond (inb ((4 * k + 3 : Nat) : Int) s.size) _ _ = _ from ct (by simp; omega) rfl, show cond (inb (k : Int) 64) _ _ = _ from ct (by simp; omega) rfl]
      exact fin _
    · have hs15 : sb .i64 (k : Int) 15 = ((k - 15 : Nat) : Int) := by rw [sb64 (by omega) (by omega)]; omega
      have hs2 : sb .i64 (k : Int) 2 = ((k - 2 : Nat) : Int) := by rw [sb64 (by omega) (by omega)]; omega
      have hs16 : sb .i64 (k : Int) 16 = ((k - 16 : Nat) : Int) := by rw [sb64 (by omega) (by omega)]; omega
      have hs7 : sb .i64 (k : Int) 7 = ((k - 7 : Nat) : Int) := by rw [sb64 (by omega) (by omega)]; omega
      obtain ⟨r5, e5⟩ := right_spec ((w32 w).at (sb .i64 (k : Int) 15).toNat).i 7
      obtain ⟨r6, e6⟩ := right_spec ((w32 w).at (sb .i64 (k : Int) 15).toNat).i 18
      obtain ⟨r7, e7⟩ := right_spec ((w32 w).at (sb .i64 (k : Int) 2).toNat).i 17
      obtain ⟨r8, e8⟩ := right_spec ((w32 w).at (sb .i64 (k : Int) 2).toNat).i 19
      rw [show cond (ltI (k : Int) 16) _ _ = _ from cf (by simp; omega) rfl]
      rw [show cond (inb (sb .i64 (k : Int) 15) 64) _ _ = _ from ct (by rw [hs15]; simp; omega) rfl, show cond (inb (sb .i64 (k : Int) 2) 64) _ _ = _ from ct (by rw [hs2]; simp; omega) rfl, show cond (inb (sb .i64 (k : Int) 16) 64) _ _ = _ from ct (by rw [hs16]; simp; omega) rfl]
      rw [e5, bd_some, e6, bd_some, show cond (inb (sb .i64 (k : Int) 7) 64) _ _ = _ from ct (by rw [hs7]; simp; omega) rfl, e7, bd_some, e8, bd_some, show cond (inb (k : Int) 64) _ _ = _ from ct (by simp; omega) rfl]
      exact fin _
  · rw [show cond (ltI (k : Int) 64) _ _ = _ from cf (by simp; omega) rfl]
    exact ⟨w, rfl, hw⟩
theorem mix_spec (h k : List Int) (s : ByteArray) (hh : h.length = 8) (hs : s.size = 64) : ∃ h' : List Int, F89.s FUEL (w32 h) (w32 k) s = some (w32 h') ∧ h'.length = 8 := by
  unfold F89.s
  obtain ⟨w, hw, hwl⟩ := words_spec s hs
  rw [show cond (Nat.beq (w32 h).parts.length 8) _ _ = _ from ct (by simp [w32, hh]) rfl, hw]
  rw [bd_some]
  refine goS_rule (fun t : F89.S3 => ∃ (j : Nat) (i6 i7 i8 i9 i10 i11 i12 i13 : Int) (b14 : Bool) (l : List D), t = ⟨w32 w, (j : Int), w32 h, w32 k, i6, i7, i8, i9, i10, i11, i12, i13, b14, l⟩ ∧ j ≤ 64 ∧ l.length = 8) (fun t => 64 - t.i3.toNat) (fun o => ∃ h' : List Int, o = some (w32 h') ∧ h'.length = 8) ?_ _ _ ⟨0, 0, 0, 0, 0, 0, 0, 0, 0, true, _, rfl, by omega, by simp [w32, hh]⟩ (by simp [FUEL])
  rintro _ rec ⟨j, i6, i7, i8, i9, i10, i11, i12, i13, b14, l, rfl, hj, hl⟩ hrec
  simp only [F89.st3]
  by_cases h1 : j < 64
  · rw [show cond (ltI (j : Int) 64) _ _ = _ from ct (by simp; omega) rfl, show ∀ a : Option D, cond (inb (j : Int) 64) a none = a from fun a => ct (by simp; omega) rfl]
    obtain ⟨r1, e1⟩ := right_spec (ix l 4).i 6
    obtain ⟨r2, e2⟩ := right_spec (ix l 4).i 11
    obtain ⟨r3, e3⟩ := right_spec (ix l 4).i 25
    obtain ⟨r4, e4⟩ := right_spec (ix l 0).i 2
    obtain ⟨r5, e5⟩ := right_spec (ix l 0).i 13
    obtain ⟨r6, e6⟩ := right_spec (ix l 0).i 22
    have hc : (true && true && true && (Nat.beq l.length 8)) = true := by simp [hl]
    have hc2 : ∀ a : Option D, cond (inb (j : Int) 64) a none = a := fun a => ct (by simp; omega) rfl
    rw [e1, bd_some, e2, bd_some, e3, bd_some, hc2, e4, bd_some, e5, bd_some, e6, bd_some, hc, cond_true, cond_true]
    have hadd : ad .i64 (j : Int) 1 = ((j + 1 : Nat) : Int) := by rw [ad64 (by omega) (by omega)]; rfl
    rw [hadd]
    refine hrec _ ⟨j + 1, i6, i7, i8, i9, i10, i11, i12, i13, b14, _, rfl, by omega, ?_⟩ ?_
    · simp [ap, hl]
    · simp; omega
  · rw [show cond (ltI (j : Int) 64) _ _ = _ from cf (by simp; omega) rfl]
    refine goS_rule (fun t : F89.S13 => ∃ (m : Nat) (d24 : D) (i25 i26 i27 i28 i29 i30 i31 i32 : Int) (b33 : Bool) (l34 : List D) (h : List Int), t = ⟨(m : Int), w32 h, d24, i25, i26, i27, i28, i29, i30, i31, i32, b33, l34⟩ ∧ m ≤ 8 ∧ h.length = 8) (fun t => 8 - t.i22.toNat) (fun o => ∃ h' : List Int, o = some (w32 h') ∧ h'.length = 8) ?_ _ _ ⟨0, _, i6, i7, i8, i9, i10, i11, i12, i13, b14, l, h, rfl, by omega, hh⟩ (by simp [FUEL])
    rintro _ rec2 ⟨m, d24, i25, i26, i27, i28, i29, i30, i31, i32, b33, l34, g, rfl, hm, hg⟩ hrec2
    simp only [F89.st13]
    by_cases h2 : m < 8
    · have hc : ∀ a : Option D, cond (inb (m : Int) 8) a none = a := fun a => ct (by simp; omega) rfl
      rw [show cond (ltI (m : Int) 8) _ _ = _ from ct (by simp; omega) rfl, hc, hc, hc, w32_set]
      have hadd : ad .i64 (m : Int) 1 = ((m + 1 : Nat) : Int) := by rw [ad64 (by omega) (by omega)]; rfl
      rw [hadd]
      exact hrec2 _ ⟨m + 1, d24, i25, i26, i27, i28, i29, i30, i31, i32, b33, l34, _, rfl, by omega, by simpa using hg⟩ (by simp; omega)
    · rw [show cond (ltI (m : Int) 8) _ _ = _ from cf (by simp; omega) rfl]
      exact ⟨g, rfl, hg⟩
theorem tmod_nat (a b : Nat) : remI (nI a) (b : Int) = ((a % b : Nat) : Int) := by
  simp [remI, nI]; rfl
theorem ofBytes_size (l : List D) : (ofBytes l).size = l.length := by
  simp [ofBytes, ByteArray.size]
theorem bytesOf_len (s : ByteArray) : (bytesOf s).length = s.size := by simp [bytesOf]
theorem pad_spec (b : ByteArray) (hb : b.size ≤ 1000000) : ∃ t, F88.s FUEL b = some (dS t) ∧ t.size % 64 = 0 ∧ t.size ≤ b.size + 72 := by
  unfold F88.s
  rw [show cond (mx b.size) _ _ = _ from ct (by simp; omega) rfl, show cond (mx (b.size + 1)) _ _ = _ from ct (by simp; omega) rfl]
  refine goS_rule (fun t : F88.S2 => ∃ (l : List D) (b4 : Bool), t = ⟨b, 0, l.length, b4, l⟩ ∧ l.length ≤ b.size + 64 ∧ (l.length % 64 = 56 ∨ l.length + (120 - l.length % 64) % 64 ≤ b.size + 64)) (fun t => (120 - t.n3 % 64) % 64) (fun o => ∃ t, o = some (dS t) ∧ t.size % 64 = 0 ∧ t.size ≤ b.size + 72) ?_ _ _ ⟨ap (((bytesOf b).drop 0).take b.size) [D.int .u8 128], true, ?_, ?_, ?_⟩ (by simp [FUEL]; omega)
  · rintro _ rec ⟨l, b4, rfl, hl, hl2⟩ hrec
    simp only [F88.st2]
    have hrem := tmod_nat l.length 64
    rw [show ((64 : Nat) : Int) = 64 from rfl] at hrem
    rw [hrem]
    by_cases h1 : l.length % 64 = 56
    · rw [show cond (neI ((l.length % 64 : Nat) : Int) 56) _ _ = _ from cf (by simp; omega) rfl]
      refine goS_rule (fun t : F88.S6 => ∃ (m : List D) (i8 : Int) (k : Nat) (b10 : Bool), t = ⟨0, m.length, i8, (k : Int) - 1, b10, m⟩ ∧ k ≤ 8 ∧ m.length = l.length + (8 - k)) (fun t => (t.i9 + 1).toNat) (fun o => ∃ t, o = some (dS t) ∧ t.size % 64 = 0 ∧ t.size ≤ b.size + 72) ?_ _ _ ⟨l, _, 8, b4, rfl, by omega, by omega⟩ (by simp [FUEL])
      rintro _ rec2 ⟨m, i8, k, b10, rfl, hk, hm⟩ hrec2
      simp only [F88.st6]
      by_cases h2 : 1 ≤ k
      · have hml : ml .i64 8 ((k : Int) - 1) = 8 * ((k : Int) - 1) := by rw [ml64 (by omega) (by omega)]
        rw [show cond (geI ((k : Int) - 1) 0) _ _ = _ from ct (by simp; omega) rfl, hml, if_neg (by omega)]
        rw [bd_some]
        rw [show cond (mx (m.length + 1)) _ _ = _ from ct (by simp; omega) rfl]
        have step : ∀ (x : D) (bb : Bool), ∃ t, rec2 ⟨0, m.length + 1, i8, sb .i64 ((k : Int) - 1) 1, bb, ap ((m.drop 0).take m.length) [x]⟩ = some (dS t) ∧ t.size % 64 = 0 ∧ t.size ≤ b.size + 72 := by
          intro x bb
          have e1 : (ap ((m.drop 0).take m.length) [x]).length = m.length + 1 := by simp [ap]
          have e2 : sb .i64 ((k : Int) - 1) 1 = ((k - 1 : Nat) : Int) - 1 := by rw [sb64 (by omega) (by omega)]; omega
          refine hrec2 _ ⟨ap ((m.drop 0).take m.length) [x], i8, k - 1, bb, by rw [e1, e2], by omega, by omega⟩ ?_
          rw [e2]; dsimp only; omega
        exact step _ _
      · rw [show cond (geI ((k : Int) - 1) 0) _ _ = _ from cf (by simp; omega) rfl]
        refine ⟨_, rfl, ?_, ?_⟩
        · rw [ofBytes_size]; simp; omega
        · rw [ofBytes_size]; simp; omega
    · rw [show cond (neI ((l.length % 64 : Nat) : Int) 56) _ _ = _ from ct (by simp; omega) rfl, show cond (mx (l.length + 1)) _ _ = _ from ct (by simp; omega) rfl]
      have step : ∀ (x : D) (bb : Bool), ∃ t, rec ⟨b, 0, l.length + 1, bb, ap ((l.drop 0).take l.length) [x]⟩ = some (dS t) ∧ t.size % 64 = 0 ∧ t.size ≤ b.size + 72 := by
        intro x bb
        have e1 : (ap ((l.drop 0).take l.length) [x]).length = l.length + 1 := by simp [ap]
        refine hrec _ ⟨ap ((l.drop 0).take l.length) [x], bb, by rw [e1], by omega, by omega⟩ ?_
        dsimp only; omega
      exact step _ _
  · rw [F88.S2.mk.injEq]
    refine ⟨rfl, rfl, ?_, rfl, rfl⟩
    simp [ap, bytesOf_len]
  · simp [ap, bytesOf_len]
  · simp [ap, bytesOf_len]; omega
def H0 : List Int := [1779033703, 3144134277, 1013904242, 2773480762, 1359893119, 2600822924, 528734635, 1541459225]
def K0 : List Int := [1116352408, 1899447441, 3049323471, 3921009573, 961987163, 1508970993, 2453635748, 2870763221,
  3624381080, 310598401, 607225278, 1426881987, 1925078388, 2162078206, 2614888103, 3248222580,
  3835390401, 4022224774, 264347078, 604807628, 770255983, 1249150122, 1555081692, 1996064986,
  2554220882, 2821834349, 2952996808, 3210313671, 3336571891, 3584528711, 113926993, 338241895,
  666307205, 773529912, 1294757372, 1396182291, 1695183700, 1986661051, 2177026350, 2456956037,
  2730485921, 2820302411, 3259730800, 3345764771, 3516065817, 3600352804, 4094571909, 275423344,
  430227734, 506948616, 659060556, 883997877, 958139571, 1322822218, 1537002063, 1747873779,
  1955562222, 2024104815, 2227730452, 2361852424, 2428436474, 2756734187, 3204031479, 3329325298]
end Go.AM.SZ
namespace Go.AM.SZ
open Go Go.AM
set_option maxRecDepth 1000000 in
theorem const_spec : F87.s FUEL = some (.tup [w32 H0, w32 K0]) := by kernel_rfl
end Go.AM.SZ
namespace Go.AM.SZ
open Go Go.AM
theorem quo4 (k : Nat) (hk : k < 32) : quoI .i64 (k : Int) 4 = ((k / 4 : Nat) : Int) := by
  have h1 : (k : Int).tdiv 4 = ((k / 4 : Nat) : Int) := rfl
  unfold quoI
  rw [h1]
  have := ad64 (a := ((k / 4 : Nat) : Int)) (b := 0) (by omega) (by omega)
  simpa [ad] using this
theorem of_spec_ex (b : ByteArray) (hb : b.size ≤ 1000000) : ∃ l : List Int, F42.s FUEL b = some (sumD l) ∧ l.length = 32 := by
  unfold F42.s
  obtain ⟨t, ht, h1, h2⟩ := pad_spec b hb
  rw [const_spec, bd_some, ht, bd_some]
  refine goS_rule (fun s : F42.S3 => ∃ (t : ByteArray) (d : D) (h : List Int), s = ⟨dS t, d, w32 h, w32 K0⟩ ∧ t.size % 64 = 0 ∧ t.size ≤ b.size + 72 ∧ h.length = 8) (fun s => s.d3.s.size) (fun o => ∃ l : List Int, o = some (sumD l) ∧ l.length = 32) ?_ _ _ ⟨t, _, H0, rfl, h1, h2, rfl⟩ (by simp [FUEL]; omega)
  rintro _ rec ⟨t, d, h, rfl, h1, h2, h3⟩ hrec
  simp only [F42.st3]
  have hds : (dS t).s = t := rfl
  rw [hds]
  by_cases h0 : 0 < t.size
  · have h64 : 64 ≤ t.size := by omega
    rw [show cond (gtI (nI t.size) 0) _ _ = _ from ct (by simp; omega) rfl, show (true && true && (leI 64 (nI t.size)) && (leI (nI t.size) (nI t.size))) = true from by simp; omega,
      show (true && (leI 64 (nI t.size)) && (leI (nI t.size) (nI t.size)) && (leI (nI t.size) (nI t.size))) = true from by simp; omega, cond_true]
    obtain ⟨h', e1, e2⟩ := mix_spec h K0 (t.extract 0 64) h3 (by simp; omega)
    rw [e1, bd_some, cond_true]
    refine hrec _ ⟨t.extract 64 t.size, d, h', rfl, ?_, ?_, e2⟩ ?_
    · simp; omega
    · simp; omega
    · simp; omega
  · rw [show cond (gtI (nI t.size) 0) _ _ = _ from cf (by simp only [gtI_f, nI_eq]; omega) rfl]
    refine goS_rule (fun s : F42.S8 => ∃ (k : Nat) (d9 d11 : D) (l : List Int), s = ⟨(k : Int), d9, w32 h, d11, sumD l⟩ ∧ k ≤ 32 ∧ l.length = 32) (fun s => 32 - s.i8.toNat) (fun o => ∃ l : List Int, o = some (sumD l) ∧ l.length = 32) ?_ _ _ ⟨0, _, _, zeros, rfl, by omega, rfl⟩ (by simp [FUEL])
    rintro _ rec2 ⟨k, d9, d11, l, rfl, hk, hl⟩ hrec2
    simp only [F42.st8]
    by_cases hk2 : k < 32
    · have hadd : ad .i64 (k : Int) 1 = ((k + 1 : Nat) : Int) := by rw [ad64 (by omega) (by omega)]; rfl
      have hrem := tmod_nat k 4
      rw [show ((4 : Nat) : Int) = 4 from rfl, nI_eq] at hrem
      have hml : ml .i64 8 ((k % 4 : Nat) : Int) = ((8 * (k % 4) : Nat) : Int) := by rw [ml64 (by omega) (by omega)]; omega
      have hsb : sb .i64 24 ((8 * (k % 4) : Nat) : Int) = ((24 - 8 * (k % 4) : Nat) : Int) := by rw [sb64 (by omega) (by omega)]; omega
      rw [show cond (ltI (k : Int) 32) _ _ = _ from ct (by simp; omega) rfl, quo4 k hk2, hrem, hml, hsb, show cond (inb ((k / 4 : Nat) : Int) 8) _ _ = _ from ct (by simp; omega) rfl, if_neg (by omega)]
      rw [bd_some]
      rw [show cond (inb (k : Int) 32) _ _ = _ from ct (by simp; omega) rfl, hadd]
      have step : ∀ x : Int, ∃ l' : List Int, rec2 ⟨((k + 1 : Nat) : Int), d9, w32 h, d11, D.agg ((sumD l).parts.set (Int.toNat (k : Int)) (D.int .u8 x))⟩ = some (sumD l') ∧ l'.length = 32 := by
        intro x
        have e : D.agg ((sumD l).parts.set (Int.toNat (k : Int)) (D.int .u8 x)) = sumD (l.set k x) := by
          unfold sumD
          rw [List.map_set]
          rfl
        rw [e]
        exact hrec2 _ ⟨k + 1, d9, d11, l.set k x, rfl, by omega, by simpa using hl⟩ (by simp; omega)
      exact step _
    · rw [show cond (ltI (k : Int) 32) _ _ = _ from cf (by simp; omega) rfl]
      exact ⟨l, rfl, hl⟩
def shaL (b : ByteArray) : List Int := match F42.s FUEL b with
  | some (.agg ds) => if ds.length = 32 then ds.map D.i else zeros
  | _ => zeros
theorem shaL_len (b : ByteArray) : (shaL b).length = 32 := by
  unfold shaL
  split
  · split
    · simpa
    · rfl
  · rfl
theorem sha_spec (b : ByteArray) (hb : b.size ≤ 1000000) : F42.s FUEL b = some (sumD (shaL b)) := by
  obtain ⟨l, h1, h2⟩ := of_spec_ex b hb
  have : shaL b = l := by
    unfold shaL
    rw [h1]
    simp only [sumD]
    rw [if_pos (by simpa using h2), List.map_map]
    have : D.i ∘ D.int IntKind.u8 = id := rfl
    rw [this, List.map_id]
  rw [this, h1]
end Go.AM.SZ
namespace Go.AM.SZ
open Go Go.AM
theorem wrong_spec (e : Int) : F33.s FUEL e = some (wrongA e).enc := rfl
theorem find_specM (s : St) (n : ByteArray) (hl : s.files.length ≤ 1048576) : F25.s FUEL s.enc n = some (di (findI (fun f : Fl => decide (f.name = n)) s.files)) := by
  unfold F25.s
  have h0 : s.enc.at 0 = dl s.nn (s.files.map Fl.enc) := rfl
  rw [h0]
  refine goS_rule (fun t : F25.S45_2 => ∃ k : Nat, t = ⟨dl s.nn (s.files.map Fl.enc), nI s.files.length, (k : Int), s.enc, n⟩ ∧ k ≤ s.files.length ∧ ∀ i (h : i < s.files.length), i < k → decide (s.files[i].name = n) = false) (fun t => s.files.length - t.i3.toNat) (fun o => o = some (di (findI (fun f : Fl => decide (f.name = n)) s.files))) ?_ _ _ ⟨0, by simp, by omega, by omega⟩ (by simp [FUEL]; omega)
  rintro _ rec ⟨k, rfl, hk, hs⟩ hrec
  simp only [F25.st45_2]
  by_cases h1 : k < s.files.length
  · refine ct (by simp; omega) (ct (by simp; omega) ?_)
    simp only [elems_slice, Int.toNat_natCast, ix_map h1]
    by_cases h2 : s.files[k].name = n
    · refine ct (by show eqS s.files[k].name n = true; simpa using h2) ?_
      rw [findI, findIdx_some_of h1 hs (by simpa using h2)]
    · refine cf (by show eqS s.files[k].name n = false; simpa using h2) (hrec _ ⟨k + 1, ?_, by omega, ?_⟩ ?_)
      · rw [ad64 (by omega) (by omega)]; rfl
      · intro i hi hik
        by_cases hik' : i = k
        · subst hik'; simpa using h2
        · exact hs i hi (by omega)
      · rw [ad64 (by omega) (by omega)]; simp; omega
  · refine cf (by simp; omega) ?_
    rw [findI, findIdx_none_of (fun i hi => hs i hi (by omega))]
theorem numbered_spec (n : Int) : F101.s FUEL n = some (db (decide (1 ≤ n) && decide (n ≤ 1099511627776))) := by
  unfold F101.s
  by_cases h : 1 ≤ n
  · exact ct (by simpa using h) (by simp [h, leI])
  · exact cf (by simp; omega) (by simp [h])
theorem new_spec (id : Int) (s : ByteArray) (hs : s.size ≤ 1048576) : F106.s FUEL id s = some (.tup [(newF id s).1.enc, di (newF id s).2]) := by
  unfold F106.s newF
  refine bdS (name_spec s hs) ?_
  cases hv : nameB s with
  | false => exact ct rfl rfl
  | true =>
    refine cf rfl (bdS (numbered_spec id) ?_)
    by_cases h : 1 ≤ id ∧ id ≤ 1099511627776
    · rw [if_neg (by simp), if_pos h]
      exact cf (by simp [h.1, h.2]) rfl
    · rw [if_neg (by simp), if_neg h]
      exact ct (by simp; omega) rfl
theorem clone_files (nn : Bool) (l : List D) (h : nn = false → l = []) (hl : l.length ≤ 1073741824) : F107.s FUEL (dl nn l) = some (dl nn l) := by
  unfold F107.s
  cases nn with
  | false => rw [h rfl]; rfl
  | true => exact cf rfl (ct (by simpa using hl) (ct (by simp) rfl))
theorem append_spec (f : Fl) (s : ByteArray) (hf : f.data.size ≤ 1000000) (hs : s.size ≤ 1000000) : F148.s FUEL f.enc s = some (.tup [(appendF f s).1.enc, di (appendF f s).2]) := by
  unfold F148.s appendF
  have h3 : (f.enc.at 3).b = f.sealed := rfl
  have h2 : (f.enc.at 2).s = f.data := rfl
  rw [h3, h2]
  by_cases hse : f.sealed = true
  · rw [if_pos hse]; exact ct hse rfl
  · refine cf (by simpa using hse) ?_
    rw [if_neg hse]
    by_cases h0 : s = bs []
    · rw [if_pos h0]; exact ct (by simpa using h0) (by subst h0; rfl)
    rw [if_neg h0]
    refine cf (by simpa using h0) ?_
    have ha : ad .i64 (nI f.data.size) (nI s.size) = ((f.data.size + s.size : Nat) : Int) := by rw [nI_eq, nI_eq, ad64 (by omega) (by omega)]; omega
    rw [ha]
    by_cases h1 : 600 < f.data.size + s.size
    · rw [if_pos h1]; exact ct (by simp; omega) rfl
    · rw [if_neg h1]
      refine cf (by simp; omega) (bdS (x := dS (f.data ++ s)) ?_ rfl)
      unfold cat
      rw [if_pos (by have : (1000000000000 : Nat) ≤ maxInt := by decide
                     omega)]
theorem read_spec (f : Fl) (a b : Int) : F114.s FUEL f.enc a b = some (.tup [dS (readF f a b).1, di (readF f a b).2]) := by
  unfold F114.s readF
  have h2 : (f.enc.at 2).s = f.data := rfl
  rw [h2]
  by_cases h0 : a < 0
  · rw [if_pos h0]; exact ct (by simpa using h0) rfl
  rw [if_neg h0]
  refine cf (by simp; omega) ?_
  by_cases h1 : b < a
  · rw [if_pos h1]; exact ct (by simpa using h1) rfl
  rw [if_neg h1]
  refine cf (by simp; omega) ?_
  by_cases h3 : (f.data.size : Int) < b
  · rw [if_pos h3]; exact ct (by simpa using h3) rfl
  rw [if_neg h3]
  exact cf (by simp; omega) (ct (by simp; omega) rfl)
theorem meta_spec (f : Fl) : F41.s FUEL f.enc = some (metaF f).enc := rfl
theorem floor_spec (a b : Int) : F110.s FUEL a b = some (di (floorN a b)) := by
  unfold F110.s floorN maxi mini
  congr 2
  repeat' split
  all_goals omega
theorem tell_spec (f : Fl) (o : Mo) (hf : f.data.size ≤ 1000000) : F139.s FUEL f.enc o.enc = some (tellE shaL f o).enc := by
  unfold F139.s tellE
  have h0 : (o.enc.at 0).i = o.kind := rfl
  have hd : (f.enc.at 2).s = f.data := rfl
  rw [h0, hd]
  by_cases h1 : o.kind = 1
  · refine ct (by simpa using h1) ?_
    simp only [h1]
    have : o.enc.at 0 = di 1 := by rw [← h1]; rfl
    rw [this]
    rfl
  refine cf (by simpa using h1) ?_
  by_cases h2 : o.kind = 2
  · refine ct (by simpa using h2) (bdS (sha_spec f.data hf) ?_)
    have e1 : (if o.kind = 4 ∨ o.kind = 5 then o.text else bs []) = bs [] := if_neg (by omega)
    have e2 : (if o.kind = 2 ∨ o.kind = 3 then o.time else 0) = o.time := if_pos (by omega)
    have e3 : (if o.kind = 1 then (o.text.size : Int) else if o.kind = 2 then (f.data.size : Int) else 0) = (f.data.size : Int) := by rw [if_neg h1, if_pos h2]
    have e4 : (if o.kind = 2 then shaL f.data else zeros) = shaL f.data := if_pos h2
    rw [e1, e2, e3, e4]
    generalize shaL f.data = L
    rfl
  refine cf (by simpa using h2) ?_
  by_cases h3 : o.kind = 3
  · refine ct (by simpa using h3) ?_
    simp only [h3]
    have : o.enc.at 0 = di 3 := by rw [← h3]; rfl
    rw [this]
    rfl
  refine cf (by simpa using h3) ?_
  by_cases h4 : o.kind = 4
  · refine ct (by simpa using h4) (ct (by simpa using h4) ?_)
    simp only [h4]
    have : o.enc.at 0 = di 4 := by rw [← h4]; rfl
    rw [this]
    rfl
  refine cf (by simpa using h4) ?_
  by_cases h5 : o.kind = 5
  · refine ct (by simpa using h5) ?_
    simp only [h5]
    have : o.enc.at 0 = di 5 := by rw [← h5]; rfl
    rw [this]
    rfl
  · refine cf (by simpa using h5) ?_
    have e1 : (if o.kind = 4 ∨ o.kind = 5 then o.text else bs []) = bs [] := if_neg (by omega)
    have e2 : (if o.kind = 2 ∨ o.kind = 3 then o.time else 0) = 0 := if_neg (by omega)
    have e3 : (if o.kind = 1 then (o.text.size : Int) else if o.kind = 2 then (f.data.size : Int) else 0) = 0 := by rw [if_neg h1, if_neg h2]
    have e4 : (if o.kind = 2 then shaL f.data else zeros) = zeros := if_neg h2
    rw [e1, e2, e3, e4]
    rfl
theorem fileDo_spec (f : Fl) (o : Mo) (floor last : Int) (hf : FlOk f last) (ho : MoOk o) : F108.s FUEL f.enc o.enc floor = some (.tup [(fileDo shaL f o floor).1.enc, (fileDo shaL f o floor).2.1.enc, di (fileDo shaL f o floor).2.2]) := by
  have hd := hf.data
  have ht := ho.text
  have htell := tell_spec f o (by omega)
  unfold F108.s fileDo
  have h0 : (o.enc.at 0).i = o.kind := rfl
  rw [h0]
  have fin : ∀ (r : Fl × Int), (bd (some (D.tup [r.1.enc, di r.2])) fun r1 => (cond (neI (r1.at 1).i 0) (some (D.tup [f.enc, (da [(di 0), (di 0), (dS (bs [])), (di 0), (di 0), (da (rp 32 (D.int .u8 0)))]), (r1.at 1)])) (bd (F139.s FUEL f.enc o.enc) fun r2 => (some (D.tup [(r1.at 0), r2, (di 0)]))))) =
      some (.tup [(if r.2 = 0 then (r.1, tellE shaL f o, (0 : Int)) else (f, zeroEv, r.2)).1.enc, (if r.2 = 0 then (r.1, tellE shaL f o, (0 : Int)) else (f, zeroEv, r.2)).2.1.enc, di (if r.2 = 0 then (r.1, tellE shaL f o, (0 : Int)) else (f, zeroEv, r.2)).2.2]) := by
    intro r
    rw [bd_some]
    by_cases h : r.2 = 0
    · rw [if_pos h]
      exact cf (by show neI r.2 0 = false; simpa using h) (bdS htell rfl)
    · rw [if_neg h]
      exact ct (by show neI r.2 0 = true; simpa using h) rfl
  by_cases h1 : o.kind = 1
  · refine ct (by simpa using h1) (cf (by simp [h1]) (cf (by simp [h1]) ?_))
    have hR : deedF f o floor = appendF f o.text := by unfold deedF; simp [h1]
    rw [hR, show F148.s FUEL f.enc (o.enc.at 2).s = _ from append_spec f o.text (by omega) (by omega)]
    exact fin _
  refine cf (by simpa using h1) ?_
  by_cases h4 : o.kind = 4
  · refine ct (by simpa using h4) (cf (by simp [h4]) (cf (by simp [h4]) ?_))
    have hR : deedF f o floor = holdF f o.text := by unfold deedF; simp [h4]
    rw [hR, show F81.s FUEL f.enc (o.enc.at 2).s = _ from hold_spec f o.text (by omega) (by have := hf.hold; omega) (fun x hx => by have := hf.hsz x hx; omega) hf.nil]
    exact fin _
  refine cf (by simpa using h4) ?_
  by_cases h5 : o.kind = 5
  · refine ct (by simpa using h5) (cf (by simp [h5]) (cf (by simp [h5]) ?_))
    have hR : deedF f o floor = releaseF f o.text := by unfold deedF; simp [h5]
    rw [hR, show F83.s FUEL f.enc (o.enc.at 2).s = _ from release_spec f o.text (by have := hf.hold; omega) hf.nil]
    exact fin _
  refine cf (by simpa using h5) ?_
  by_cases h2 : o.kind = 2
  · refine ct (by simpa using h2) (cf (by simp [h2]) (cf (by simp [h2]) ?_))
    have hR : deedF f o floor = sealF f o.time := by unfold deedF; simp [h2]
    rw [hR, show F76.s FUEL f.enc (o.enc.at 3).i = _ from seal_spec f o.time]
    exact fin _
  refine cf (by simpa using h2) ?_
  by_cases h3 : o.kind = 3
  · refine ct (by simpa using h3) (cf (by simp [h3]) (cf (by simp [h3]) ?_))
    have hR : deedF f o floor = extendF f o.time := by unfold deedF; simp [h3]
    rw [hR, show F79.s FUEL f.enc (o.enc.at 3).i = _ from extend_spec f o.time]
    exact fin _
  refine cf (by simpa using h3) ?_
  by_cases h6 : o.kind = 6
  · refine ct (by simpa using h6) (cf (by simp [h6]) (ct (by simpa using h6) ?_))
    have hR : deedF f o floor = (zeroF, mayN f floor) := by unfold deedF; simp [h6]
    rw [hR]
    refine bdS (may_spec f floor) ?_
    by_cases h : mayN f floor = 0
    · rw [if_pos h]
      exact cf (by show neI (mayN f floor) 0 = false; simpa using h) (bdS htell rfl)
    · rw [if_neg h]
      exact ct (by show neI (mayN f floor) 0 = true; simpa using h) rfl
  refine cf (by simpa using h6) ?_
  by_cases h0 : o.kind = 0
  · have hR : deedF f o floor = (f, 4) := by unfold deedF; simp [h0]
    rw [hR]
    exact ct (by simpa using h0) rfl
  · have hR : deedF f o floor = (f, 1) := by unfold deedF; simp [h0, h1, h2, h3, h4, h5, h6]
    rw [hR]
    exact cf (by simpa using h0) rfl
end Go.AM.SZ
