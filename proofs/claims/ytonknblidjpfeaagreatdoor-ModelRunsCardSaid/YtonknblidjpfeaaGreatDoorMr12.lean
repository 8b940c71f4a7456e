/- Part 12 of the proof: the abstract machine, what the functions compute, and plain laws over that. -/
import Derived.Test.YtonknblidjpfeaaGreatDoorMr11
set_option linter.all false
set_option linter.unusedSimpArgs false
set_option linter.unusedVariables false
set_option linter.unusedSectionVars false
namespace Go.AM.SZ
open Go Go.AM Go.Proofs Go.RowKit
namespace F51
def cons : List (Nat × Con) := [(103, F103.c)]
def exts : List (Nat × Ext) := []
def h : List (Nat × Nat × Hint) := [(51, 5, { live := [3, 4] })]
noncomputable def e (M : Nat) : Env := env cons exts h M
structure S5 where
  (n2 n3 : Nat) (i4 : Int) (b5 : Bool) (l6 : List D)
inductive X5 where
  | e0 (n2 n3 : Nat) (i4 : Int) (b5 : Bool) (l6 : List D)
  | e1 (n2 n3 : Nat) (i4 : Int) (b5 : Bool) (l6 : List D)
  | e2 (n2 n3 : Nat) (i4 : Int) (b5 : Bool) (l6 : List D)
  | e3 (n2 n3 : Nat) (i4 : Int) (b5 : Bool) (l6 : List D)
  | e4 (n2 n3 : Nat) (i4 : Int) (b5 : Bool) (l6 : List D)
  | e5 (n2 n3 : Nat) (i4 : Int) (b5 : Bool) (l6 : List D)
  | e6 (n2 n3 : Nat) (i4 : Int) (b5 : Bool) (l6 : List D)
  | e7 (n2 n3 : Nat) (i4 : Int) (b5 : Bool) (l6 : List D)
def st5 (M : Nat) : S5 → (S5 → Option D) → (X5 → Option D) → Option D
  | ⟨n2, n3, i4, b5, l6⟩, rec, K => (cond (ltI i4 (nI n3)) (cond (inb i4 n3) (cond (ltI (ix l6 (n2 + i4.toNat)).i 32) (K (.e0 n2 n3 i4 b5 l6)) (cond (eqI (ix l6 (n2 + i4.toNat)).i 47) (K (.e1 n2 n3 i4 b5 l6)) (cond (geI (ix l6 (n2 + i4.toNat)).i 127) (cond (leI (ix l6 (n2 + i4.toNat)).i 159) (K (.e2 n2 n3 i4 b5 l6)) (cond (eqI (ix l6 (n2 + i4.toNat)).i 65533) (K (.e3 n2 n3 i4 b5 l6)) (cond (geI (ix l6 (n2 + i4.toNat)).i 1114112) (K (.e4 n2 n3 i4 b5 l6)) (rec ⟨n2, n3, (ad .i64 i4 1), b5, l6⟩)))) (cond (eqI (ix l6 (n2 + i4.toNat)).i 65533) (K (.e5 n2 n3 i4 b5 l6)) (cond (geI (ix l6 (n2 + i4.toNat)).i 1114112) (K (.e6 n2 n3 i4 b5 l6)) (rec ⟨n2, n3, (ad .i64 i4 1), b5, l6⟩)))))) none) (K (.e7 n2 n3 i4 b5 l6)))
def lv5 : S5 → List Leaf
  | ⟨n2, n3, i4, b5, l6⟩ => [.n n2, .n n3, .i i4, .b b5, .l l6]
def of5 : List Leaf → Option S5
  | [.n n2, .n n3, .i i4, .b b5, .l l6] => some ⟨n2, n3, i4, b5, l6⟩
  | _ => none
def ex5 (k : Kont) : X5 → Option D
  | .e0 n2 n3 i4 b5 l6 => k .ret ((us 2 ((vb false) :: (.sref 0 n2 n3) :: (vi i4) :: (vk (.int .i64) (ix l6 (n2 + i4.toNat))) :: (us 25 ((vi i4) :: (.sref 0 n2 n3) :: (vi (nI n3)) :: (vb (ltI i4 (nI n3))) :: (us 2 ((.sref 0 n2 n3) :: (vi i4) :: (.ptr 0 [(n2 + i4.toNat)] (.int .i64)) :: (vk (.int .i64) (ix l6 (n2 + i4.toNat))) :: (vk (.int .i64) (ix l6 (n2 + i4.toNat))) :: (vb (ltI (ix l6 (n2 + i4.toNat)).i 32)) :: (vb true) :: v0 :: v0 :: (vb true) :: (vb true) :: v0 :: v0 :: v0 :: v0 :: v0 :: v0 :: (vb true) :: (vb true) :: v0 :: v0 :: (vb true) :: (vb true) :: v0 :: v0 :: (vb true) :: []))))))) [(.row 3 true b5 l6)]
  | .e1 n2 n3 i4 b5 l6 => k .ret ((us 2 ((vb false) :: (.sref 0 n2 n3) :: (vi i4) :: (vk (.int .i64) (ix l6 (n2 + i4.toNat))) :: (us 25 ((vi i4) :: (.sref 0 n2 n3) :: (vi (nI n3)) :: (vb (ltI i4 (nI n3))) :: (us 2 ((.sref 0 n2 n3) :: (vi i4) :: (.ptr 0 [(n2 + i4.toNat)] (.int .i64)) :: (vk (.int .i64) (ix l6 (n2 + i4.toNat))) :: (vk (.int .i64) (ix l6 (n2 + i4.toNat))) :: (vb (ltI (ix l6 (n2 + i4.toNat)).i 32)) :: (vb false) :: (vk (.int .i64) (ix l6 (n2 + i4.toNat))) :: (vb (eqI (ix l6 (n2 + i4.toNat)).i 47)) :: (vb (eqI (ix l6 (n2 + i4.toNat)).i 47)) :: (vb true) :: v0 :: v0 :: v0 :: v0 :: v0 :: v0 :: (vb true) :: (vb true) :: v0 :: v0 :: (vb true) :: (vb true) :: v0 :: v0 :: (vb true) :: []))))))) [(.row 3 true b5 l6)]
  | .e2 n2 n3 i4 b5 l6 => k .ret ((us 2 ((vb false) :: (.sref 0 n2 n3) :: (vi i4) :: (vk (.int .i64) (ix l6 (n2 + i4.toNat))) :: (us 25 ((vi i4) :: (.sref 0 n2 n3) :: (vi (nI n3)) :: (vb (ltI i4 (nI n3))) :: (us 2 ((.sref 0 n2 n3) :: (vi i4) :: (.ptr 0 [(n2 + i4.toNat)] (.int .i64)) :: (vk (.int .i64) (ix l6 (n2 + i4.toNat))) :: (vk (.int .i64) (ix l6 (n2 + i4.toNat))) :: (vb (ltI (ix l6 (n2 + i4.toNat)).i 32)) :: (vb false) :: (vk (.int .i64) (ix l6 (n2 + i4.toNat))) :: (vb (eqI (ix l6 (n2 + i4.toNat)).i 47)) :: (vb (eqI (ix l6 (n2 + i4.toNat)).i 47)) :: (vb false) :: (vk (.int .i64) (ix l6 (n2 + i4.toNat))) :: (vb (geI (ix l6 (n2 + i4.toNat)).i 127)) :: (vb true) :: (vk (.int .i64) (ix l6 (n2 + i4.toNat))) :: (vb (leI (ix l6 (n2 + i4.toNat)).i 159)) :: (vb (leI (ix l6 (n2 + i4.toNat)).i 159)) :: (vb (leI (ix l6 (n2 + i4.toNat)).i 159)) :: (vb true) :: v0 :: v0 :: (vb true) :: (vb true) :: v0 :: v0 :: (vb true) :: []))))))) [(.row 3 true b5 l6)]
  | .e3 n2 n3 i4 b5 l6 => k .ret ((us 2 ((vb false) :: (.sref 0 n2 n3) :: (vi i4) :: (vk (.int .i64) (ix l6 (n2 + i4.toNat))) :: (us 25 ((vi i4) :: (.sref 0 n2 n3) :: (vi (nI n3)) :: (vb (ltI i4 (nI n3))) :: (us 2 ((.sref 0 n2 n3) :: (vi i4) :: (.ptr 0 [(n2 + i4.toNat)] (.int .i64)) :: (vk (.int .i64) (ix l6 (n2 + i4.toNat))) :: (vk (.int .i64) (ix l6 (n2 + i4.toNat))) :: (vb (ltI (ix l6 (n2 + i4.toNat)).i 32)) :: (vb false) :: (vk (.int .i64) (ix l6 (n2 + i4.toNat))) :: (vb (eqI (ix l6 (n2 + i4.toNat)).i 47)) :: (vb (eqI (ix l6 (n2 + i4.toNat)).i 47)) :: (vb false) :: (vk (.int .i64) (ix l6 (n2 + i4.toNat))) :: (vb (geI (ix l6 (n2 + i4.toNat)).i 127)) :: (vb true) :: (vk (.int .i64) (ix l6 (n2 + i4.toNat))) :: (vb (leI (ix l6 (n2 + i4.toNat)).i 159)) :: (vb (leI (ix l6 (n2 + i4.toNat)).i 159)) :: (vb (leI (ix l6 (n2 + i4.toNat)).i 159)) :: (vb false) :: (vk (.int .i64) (ix l6 (n2 + i4.toNat))) :: (vb (eqI (ix l6 (n2 + i4.toNat)).i 65533)) :: (vb (eqI (ix l6 (n2 + i4.toNat)).i 65533)) :: (vb true) :: v0 :: v0 :: (vb true) :: []))))))) [(.row 3 true b5 l6)]
  | .e4 n2 n3 i4 b5 l6 => k .ret ((us 2 ((vb false) :: (.sref 0 n2 n3) :: (vi i4) :: (vk (.int .i64) (ix l6 (n2 + i4.toNat))) :: (us 25 ((vi i4) :: (.sref 0 n2 n3) :: (vi (nI n3)) :: (vb (ltI i4 (nI n3))) :: (us 2 ((.sref 0 n2 n3) :: (vi i4) :: (.ptr 0 [(n2 + i4.toNat)] (.int .i64)) :: (vk (.int .i64) (ix l6 (n2 + i4.toNat))) :: (vk (.int .i64) (ix l6 (n2 + i4.toNat))) :: (vb (ltI (ix l6 (n2 + i4.toNat)).i 32)) :: (vb false) :: (vk (.int .i64) (ix l6 (n2 + i4.toNat))) :: (vb (eqI (ix l6 (n2 + i4.toNat)).i 47)) :: (vb (eqI (ix l6 (n2 + i4.toNat)).i 47)) :: (vb false) :: (vk (.int .i64) (ix l6 (n2 + i4.toNat))) :: (vb (geI (ix l6 (n2 + i4.toNat)).i 127)) :: (vb true) :: (vk (.int .i64) (ix l6 (n2 + i4.toNat))) :: (vb (leI (ix l6 (n2 + i4.toNat)).i 159)) :: (vb (leI (ix l6 (n2 + i4.toNat)).i 159)) :: (vb (leI (ix l6 (n2 + i4.toNat)).i 159)) :: (vb false) :: (vk (.int .i64) (ix l6 (n2 + i4.toNat))) :: (vb (eqI (ix l6 (n2 + i4.toNat)).i 65533)) :: (vb (eqI (ix l6 (n2 + i4.toNat)).i 65533)) :: (vb false) :: (vk (.int .i64) (ix l6 (n2 + i4.toNat))) :: (vb (geI (ix l6 (n2 + i4.toNat)).i 1114112)) :: (vb (geI (ix l6 (n2 + i4.toNat)).i 1114112)) :: []))))))) [(.row 3 true b5 l6)]
  | .e5 n2 n3 i4 b5 l6 => k .ret ((us 2 ((vb false) :: (.sref 0 n2 n3) :: (vi i4) :: (vk (.int .i64) (ix l6 (n2 + i4.toNat))) :: (us 25 ((vi i4) :: (.sref 0 n2 n3) :: (vi (nI n3)) :: (vb (ltI i4 (nI n3))) :: (us 2 ((.sref 0 n2 n3) :: (vi i4) :: (.ptr 0 [(n2 + i4.toNat)] (.int .i64)) :: (vk (.int .i64) (ix l6 (n2 + i4.toNat))) :: (vk (.int .i64) (ix l6 (n2 + i4.toNat))) :: (vb (ltI (ix l6 (n2 + i4.toNat)).i 32)) :: (vb false) :: (vk (.int .i64) (ix l6 (n2 + i4.toNat))) :: (vb (eqI (ix l6 (n2 + i4.toNat)).i 47)) :: (vb (eqI (ix l6 (n2 + i4.toNat)).i 47)) :: (vb false) :: (vk (.int .i64) (ix l6 (n2 + i4.toNat))) :: (vb (geI (ix l6 (n2 + i4.toNat)).i 127)) :: (vb false) :: v0 :: v0 :: (vb false) :: (vb false) :: (vb false) :: (vk (.int .i64) (ix l6 (n2 + i4.toNat))) :: (vb (eqI (ix l6 (n2 + i4.toNat)).i 65533)) :: (vb (eqI (ix l6 (n2 + i4.toNat)).i 65533)) :: (vb true) :: v0 :: v0 :: (vb true) :: []))))))) [(.row 3 true b5 l6)]
  | .e6 n2 n3 i4 b5 l6 => k .ret ((us 2 ((vb false) :: (.sref 0 n2 n3) :: (vi i4) :: (vk (.int .i64) (ix l6 (n2 + i4.toNat))) :: (us 25 ((vi i4) :: (.sref 0 n2 n3) :: (vi (nI n3)) :: (vb (ltI i4 (nI n3))) :: (us 2 ((.sref 0 n2 n3) :: (vi i4) :: (.ptr 0 [(n2 + i4.toNat)] (.int .i64)) :: (vk (.int .i64) (ix l6 (n2 + i4.toNat))) :: (vk (.int .i64) (ix l6 (n2 + i4.toNat))) :: (vb (ltI (ix l6 (n2 + i4.toNat)).i 32)) :: (vb false) :: (vk (.int .i64) (ix l6 (n2 + i4.toNat))) :: (vb (eqI (ix l6 (n2 + i4.toNat)).i 47)) :: (vb (eqI (ix l6 (n2 + i4.toNat)).i 47)) :: (vb false) :: (vk (.int .i64) (ix l6 (n2 + i4.toNat))) :: (vb (geI (ix l6 (n2 + i4.toNat)).i 127)) :: (vb false) :: v0 :: v0 :: (vb false) :: (vb false) :: (vb false) :: (vk (.int .i64) (ix l6 (n2 + i4.toNat))) :: (vb (eqI (ix l6 (n2 + i4.toNat)).i 65533)) :: (vb (eqI (ix l6 (n2 + i4.toNat)).i 65533)) :: (vb false) :: (vk (.int .i64) (ix l6 (n2 + i4.toNat))) :: (vb (geI (ix l6 (n2 + i4.toNat)).i 1114112)) :: (vb (geI (ix l6 (n2 + i4.toNat)).i 1114112)) :: []))))))) [(.row 3 true b5 l6)]
  | .e7 n2 n3 i4 b5 l6 => k (.exit 0) ((us 3 ((.sref 0 n2 n3) :: (vi i4) :: (us 26 ((vi i4) :: (.sref 0 n2 n3) :: (vi (nI n3)) :: (vb (ltI i4 (nI n3))) :: (us 28 [])))))) [(.row 3 true b5 l6)]
def ps5 : List PV := ((up 3 ((.sref 0) :: (.d (.int .i64) (.int .i64)) :: (up 58 []))))
def qs5 : List PO := [(.row 3 true)]
noncomputable def t (M : Nat) : List Ent := ⟨51, 11, 0, 5, sumS [3, 4] ps5 qs5 [] of5 (st5 M) ex5 M⟩ :: []
theorem t_ok (M : Nat) : AllOk (e M) (tblOf (t M)) := AllOk.addS (n0 := 1) (lv := lv5) AllOk.nil (by kernel_rfl) rfl (by intro ls s h; unfold of5 at h; (repeat' split at h) <;> simp at h; subst h; rfl) (by intro s; kernel_rfl) (by intro s; kernel_rfl) (by intro s nx k; kernel_rfl)
def s (M : Nat) (p0 : ByteArray) : Option D :=
  (bd (F103.s FUEL p0) fun r1 => (cond (ltI (nI r1.elems.length) 1) (some (db false)) (cond (gtI (nI r1.elems.length) 24) (some (db false)) (cond (inb 0 r1.elems.length) (cond (eqI (ix r1.elems 0).i 32) (some (db false)) (cond (inb (sb .i64 (nI r1.elems.length) 1) r1.elems.length) (cond (eqI (ix r1.elems (0 + (sb .i64 (nI r1.elems.length) 1).toNat)).i 32) (some (db false)) (goS (st5 M) M ⟨0, r1.elems.length, 0, r1.nn, r1.elems⟩ fun x => match x with | .e0 n2 n3 i4 b5 l6 => (some (db false)) | .e1 n2 n3 i4 b5 l6 => (some (db false)) | .e2 n2 n3 i4 b5 l6 => (some (db false)) | .e3 n2 n3 i4 b5 l6 => (some (db false)) | .e4 n2 n3 i4 b5 l6 => (some (db false)) | .e5 n2 n3 i4 b5 l6 => (some (db false)) | .e6 n2 n3 i4 b5 l6 => (some (db false)) | .e7 n2 n3 i4 b5 l6 => (some (db true)))) none)) none))))
theorem run (M : Nat) (p0 : ByteArray) : callS (e M) (tblOf (t M)) 12 (.fn 51) [.d .str (dS p0)] [] (fun v H => finish ty [4] v H) = s M p0 := by kernel_rfl
def c : Con := { run := fun ds => match ds with | [p0] => s FUEL p0.s | _ => none, plain := true }
theorem ok : ConOk (51, c) := mkC Tryz.f51 [.str] [4] (by kernel_rfl) (by kernel_rfl) (by kernel_rfl) (by kernel_rfl) (allCons F103.ok allNil) allNil (t_ok FUEL) fun a => run FUEL a.1
end F51
namespace F52
def cons : List (Nat × Con) := [(51, F51.c)]
def exts : List (Nat × Ext) := []
def h : List (Nat × Nat × Hint) := []
noncomputable def e (M : Nat) : Env := env cons exts h M
def s (M : Nat) (p0 : Int) (p1 : ByteArray) : Option D :=
  (bd (F51.s FUEL p1) fun r1 => (cond (!r1.b) (some (D.tup [(da [(di 0), (dS (bs [])), (dS (bs [])), (db false), (di 0), (dl false [])]), (di 2)])) (cond (ltI p0 1) (some (D.tup [(da [(di 0), (dS (bs [])), (dS (bs [])), (db false), (di 0), (dl false [])]), (di 1)])) (cond (gtI p0 1099511627776) (some (D.tup [(da [(di 0), (dS (bs [])), (dS (bs [])), (db false), (di 0), (dl false [])]), (di 1)])) (some (D.tup [(da [(di p0), (dS p1), (dS (bs [])), (db false), (di 0), (dl false [])]), (di 0)]))))))
theorem run (M : Nat) (p0 : Int) (p1 : ByteArray) : callS (e M) (tblOf []) 12 (.fn 52) [.d (.int .i64) (di p0), .d .str (dS p1)] [] (fun v H => finish ty [39, 36] v H) = s M p0 p1 := by kernel_rfl
def c : Con := { run := fun ds => match ds with | [p0, p1] => s FUEL p0.i p1.s | _ => none }
theorem ok : ConOk (52, c) := mkC Tryz.f52 [(.int .i64), .str] [39, 36] (by kernel_rfl) (by kernel_rfl) (by kernel_rfl) (by kernel_rfl) (allCons F51.ok allNil) allNil AllOk.nil fun a => run FUEL a.1 a.2.1
end F52
namespace F53
def cons : List (Nat × Con) := []
def exts : List (Nat × Ext) := []
def h : List (Nat × Nat × Hint) := []
noncomputable def e (M : Nat) : Env := env cons exts h M
def s (M : Nat) (p0 : Int) (p1 : Int) : Option D :=
  (cond (ltI p1 0) (cond (gtI 0 p0) (some (di 0)) (some (di p0))) (cond (gtI p1 1099511627776) (cond (gtI 1099511627776 p0) (some (di 1099511627776)) (some (di p0))) (cond (gtI p1 p0) (some (di p1)) (some (di p0)))))
theorem run (M : Nat) (p0 : Int) (p1 : Int) : callS (e M) (tblOf []) 12 (.fn 53) [.d (.int .i64) (di p0), .d (.int .i64) (di p1)] [] (fun v H => finish ty [3] v H) = s M p0 p1 := by kernel_rfl
def c : Con := { run := fun ds => match ds with | [p0, p1] => s FUEL p0.i p1.i | _ => none, plain := true }
theorem ok : ConOk (53, c) := mkC Tryz.f53 [(.int .i64), (.int .i64)] [3] (by kernel_rfl) (by kernel_rfl) (by kernel_rfl) (by kernel_rfl) allNil allNil AllOk.nil fun a => run FUEL a.1 a.2.1
end F53
namespace F54
def cons : List (Nat × Con) := []
def exts : List (Nat × Ext) := []
def h : List (Nat × Nat × Hint) := []
noncomputable def e (M : Nat) : Env := env cons exts h M
def s (M : Nat) (p0 : D) (p1 : Int) : Option D :=
  (cond (!(p0.at 3).b) (some (di 6)) (cond (ltI p1 (p0.at 4).i) (some (di 8)) (cond (gtI (nI (p0.at 5).elems.length) 0) (some (di 9)) (some (di 0)))))
theorem run (M : Nat) (p0 : D) (p1 : Int) : callS (e M) (tblOf []) 12 (.fn 54) [.d (.struct [3, 9, 9, 4, 3, 37]) p0, .d (.int .i64) (di p1)] [] (fun v H => finish ty [36] v H) = s M p0 p1 := by kernel_rfl
def c : Con := { run := fun ds => match ds with | [p0, p1] => s FUEL p0 p1.i | _ => none, plain := true }
theorem ok : ConOk (54, c) := mkC Tryz.f54 [(.struct [3, 9, 9, 4, 3, 37]), (.int .i64)] [36] (by kernel_rfl) (by kernel_rfl) (by kernel_rfl) (by kernel_rfl) allNil allNil AllOk.nil fun a => run FUEL a.1 a.2.1
end F54
namespace F104
def cons : List (Nat × Con) := [(103, F103.c)]
def exts : List (Nat × Ext) := []
def h : List (Nat × Nat × Hint) := [(104, 4, { live := [5, 6, 7] })]
noncomputable def e (M : Nat) : Env := env cons exts h M
structure S4 where
  (n3 n4 n5 n6 : Nat) (i7 : Int) (b8 : Bool) (l9 : List D) (b10 : Bool) (l11 : List D)
inductive X4 where
  | e0 (n3 n4 n5 n6 : Nat) (i7 : Int) (b8 : Bool) (l9 : List D) (b10 : Bool) (l11 : List D)
  | e1 (n3 n4 n5 n6 : Nat) (i7 : Int) (b8 : Bool) (l9 : List D) (b10 : Bool) (l11 : List D)
  | e2 (n3 n4 n5 n6 : Nat) (i7 : Int) (b8 : Bool) (l9 : List D) (b10 : Bool) (l11 : List D)
def st4 (M : Nat) : S4 → (S4 → Option D) → (X4 → Option D) → Option D
  | ⟨n3, n4, n5, n6, i7, b8, l9, b10, l11⟩, rec, K => (cond (ltI i7 (nI n4)) (cond (ltI i7 (nI n6)) (cond (inb i7 n4) (cond (inb i7 n6) (cond (neI (ix l9 (n3 + i7.toNat)).i (ix l11 (n5 + i7.toNat)).i) (cond (inb i7 n4) (cond (inb i7 n6) (K (.e0 n3 n4 n5 n6 i7 b8 l9 b10 l11)) none) none) (rec ⟨n3, n4, n5, n6, (ad .i64 i7 1), b8, l9, b10, l11⟩)) none) none) (K (.e1 n3 n4 n5 n6 i7 b8 l9 b10 l11))) (K (.e2 n3 n4 n5 n6 i7 b8 l9 b10 l11)))
def lv4 : S4 → List Leaf
  | ⟨n3, n4, n5, n6, i7, b8, l9, b10, l11⟩ => [.n n3, .n n4, .n n5, .n n6, .i i7, .b b8, .l l9, .b b10, .l l11]
def of4 : List Leaf → Option S4
  | [.n n3, .n n4, .n n5, .n n6, .i i7, .b b8, .l l9, .b b10, .l l11] => some ⟨n3, n4, n5, n6, i7, b8, l9, b10, l11⟩
  | _ => none
def ex4 (k : Kont) : X4 → Option D
  | .e0 n3 n4 n5 n6 i7 b8 l9 b10 l11 => k .ret ((us 4 ((vb (ltI (ix l9 (n3 + i7.toNat)).i (ix l11 (n5 + i7.toNat)).i)) :: (.sref 0 n3 n4) :: (.sref 1 n5 n6) :: (vi i7) :: (us 4 ((vi i7) :: (.sref 0 n3 n4) :: (vi (nI n4)) :: (vb (ltI i7 (nI n4))) :: (vb true) :: (vi i7) :: (.sref 1 n5 n6) :: (vi (nI n6)) :: (vb (ltI i7 (nI n6))) :: (vb (ltI i7 (nI n6))) :: (us 2 ((.sref 0 n3 n4) :: (vi i7) :: (.ptr 0 [(n3 + i7.toNat)] (.int .i64)) :: (vk (.int .i64) (ix l9 (n3 + i7.toNat))) :: (.sref 1 n5 n6) :: (vi i7) :: (.ptr 1 [(n5 + i7.toNat)] (.int .i64)) :: (vk (.int .i64) (ix l11 (n5 + i7.toNat))) :: (vb (neI (ix l9 (n3 + i7.toNat)).i (ix l11 (n5 + i7.toNat)).i)) :: (.sref 0 n3 n4) :: (vi i7) :: (.ptr 0 [(n3 + i7.toNat)] (.int .i64)) :: (vk (.int .i64) (ix l9 (n3 + i7.toNat))) :: (.sref 1 n5 n6) :: (vi i7) :: (.ptr 1 [(n5 + i7.toNat)] (.int .i64)) :: (vk (.int .i64) (ix l11 (n5 + i7.toNat))) :: (vb (ltI (ix l9 (n3 + i7.toNat)).i (ix l11 (n5 + i7.toNat)).i)) :: (us 5 [])))))))) [(.row 3 true b8 l9), (.row 3 true b10 l11)]
  | .e1 n3 n4 n5 n6 i7 b8 l9 b10 l11 => k (.exit 0) ((us 5 ((.sref 0 n3 n4) :: (.sref 1 n5 n6) :: (vi i7) :: (us 4 ((vi i7) :: (.sref 0 n3 n4) :: (vi (nI n4)) :: (vb (ltI i7 (nI n4))) :: (vb true) :: (vi i7) :: (.sref 1 n5 n6) :: (vi (nI n6)) :: (vb (ltI i7 (nI n6))) :: (vb (ltI i7 (nI n6))) :: (us 25 [])))))) [(.row 3 true b8 l9), (.row 3 true b10 l11)]
  | .e2 n3 n4 n5 n6 i7 b8 l9 b10 l11 => k (.exit 0) ((us 5 ((.sref 0 n3 n4) :: (.sref 1 n5 n6) :: (vi i7) :: (us 4 ((vi i7) :: (.sref 0 n3 n4) :: (vi (nI n4)) :: (vb (ltI i7 (nI n4))) :: (vb false) :: v0 :: v0 :: v0 :: v0 :: (vb false) :: (us 25 [])))))) [(.row 3 true b8 l9), (.row 3 true b10 l11)]
def ps4 : List PV := ((up 5 ((.sref 0) :: (.sref 1) :: (.d (.int .i64) (.int .i64)) :: (up 39 []))))
def qs4 : List PO := [(.row 3 true), (.row 3 true)]
noncomputable def t (M : Nat) : List Ent := ⟨104, 11, 0, 4, sumS [5, 6, 7] ps4 qs4 [] of4 (st4 M) ex4 M⟩ :: []
theorem t_ok (M : Nat) : AllOk (e M) (tblOf (t M)) := AllOk.addS (n0 := 2) (lv := lv4) AllOk.nil (by kernel_rfl) rfl (by intro ls s h; unfold of4 at h; (repeat' split at h) <;> simp at h; subst h; rfl) (by intro s; kernel_rfl) (by intro s; kernel_rfl) (by intro s nx k; kernel_rfl)
def s (M : Nat) (p0 : ByteArray) (p1 : ByteArray) : Option D :=
  (bd (F103.s FUEL p0) fun r1 => (bd (F103.s FUEL p1) fun r2 => (goS (st4 M) M ⟨0, r1.elems.length, 0, r2.elems.length, 0, r1.nn, r1.elems, r2.nn, r2.elems⟩ fun x => match x with | .e0 n3 n4 n5 n6 i7 b8 l9 b10 l11 => (some (db (ltI (ix l9 (n3 + i7.toNat)).i (ix l11 (n5 + i7.toNat)).i))) | .e1 n3 n4 n5 n6 i7 b8 l9 b10 l11 => (some (db (ltI (nI n4) (nI n6)))) | .e2 n3 n4 n5 n6 i7 b8 l9 b10 l11 => (some (db (ltI (nI n4) (nI n6)))))))
theorem run (M : Nat) (p0 : ByteArray) (p1 : ByteArray) : callS (e M) (tblOf (t M)) 12 (.fn 104) [.d .str (dS p0), .d .str (dS p1)] [] (fun v H => finish ty [4] v H) = s M p0 p1 := by kernel_rfl
def c : Con := { run := fun ds => match ds with | [p0, p1] => s FUEL p0.s p1.s | _ => none, plain := true }
theorem ok : ConOk (104, c) := mkC Tryz.f104 [.str, .str] [4] (by kernel_rfl) (by kernel_rfl) (by kernel_rfl) (by kernel_rfl) (allCons F103.ok allNil) allNil (t_ok FUEL) fun a => run FUEL a.1 a.2.1
end F104
namespace F55
def k0_ : K := (.struct [25, 3, 3])
def cons : List (Nat × Con) := [(104, F104.c)]
def exts : List (Nat × Ext) := []
def h : List (Nat × Nat × Hint) := [(55, 3, { live := [1, 3, 4], rows := [(3, 9)] }), (55, 6, { live := [1, 3, 4, 5] })]
def q0_ : PO := (.var k0_ (.d k0_ .x))
noncomputable def e (M : Nat) : Env := env cons exts h M
structure S6 where
  (n7 n8 : Nat) (i9 i10 : Int) (d11 : D) (b12 : Bool) (l13 : List D)
inductive X6 where
  | e0 (n7 n8 : Nat) (i9 i10 : Int) (d11 : D) (b12 : Bool) (l13 : List D) (r14 : D)
  | e1 (n7 n8 : Nat) (i9 i10 : Int) (d11 : D) (b12 : Bool) (l13 : List D)
def st6 (M : Nat) : S6 → (S6 → Option D) → (X6 → Option D) → Option D
  | ⟨n7, n8, i9, i10, d11, b12, l13⟩, rec, K => (cond (ltI i10 (nI n8)) (cond (inb i10 n8) (cond (inb i9 (d11.at 0).elems.length) (bd (F104.s FUEL (ix l13 (n7 + i10.toNat)).s ((ix (d11.at 0).elems i9.toNat).at 1).s) fun r14 => (cond r14.b (rec ⟨n7, n8, i9, (ad .i64 i10 1), d11, b12, l13⟩) (K (.e0 n7 n8 i9 i10 d11 b12 l13 r14)))) none) none) (K (.e1 n7 n8 i9 i10 d11 b12 l13)))
def lv6 : S6 → List Leaf
  | ⟨n7, n8, i9, i10, d11, b12, l13⟩ => [.n n7, .n n8, .i i9, .i i10, .d d11, .b b12, .l l13]
def of6 : List Leaf → Option S6
  | [.n n7, .n n8, .i i9, .i i10, .d d11, .b b12, .l l13] => some ⟨n7, n8, i9, i10, d11, b12, l13⟩
  | _ => none
def ex6 (k : Kont) : X6 → Option D
  | .e0 n7 n8 i9 i10 d11 b12 l13 r14 => k (.exit 2) ((us 1 ((.ptr 0 [] k0_) :: (us 1 ((.sref 1 n7 n8) :: (vi i9) :: (vi i10) :: (us 8 ((vi i10) :: (.sref 1 n7 n8) :: (vi (nI n8)) :: (vb (ltI i10 (nI n8))) :: (vb true) :: (.sref 1 n7 n8) :: (vi i10) :: (.ptr 1 [(n7 + i10.toNat)] .str) :: (vk .str (ix l13 (n7 + i10.toNat))) :: (.ptr 0 [0] (.slice 39)) :: (vk (.slice 39) (d11.at 0)) :: (vi i9) :: (.cptr (.struct [3, 9, 9, 4, 3, 37]) (ix (d11.at 0).elems i9.toNat)) :: (.cptr .str ((ix (d11.at 0).elems i9.toNat).at 1)) :: (vk .str ((ix (d11.at 0).elems i9.toNat).at 1)) :: (vk .bool r14) :: (vk .bool r14) :: (us 22 [])))))))) [(.var k0_ (vk k0_ d11)), (.row 9 true b12 l13)]
  | .e1 n7 n8 i9 i10 d11 b12 l13 => k (.exit 2) ((us 1 ((.ptr 0 [] k0_) :: (us 1 ((.sref 1 n7 n8) :: (vi i9) :: (vi i10) :: (us 8 ((vi i10) :: (.sref 1 n7 n8) :: (vi (nI n8)) :: (vb (ltI i10 (nI n8))) :: (vb false) :: v0 :: v0 :: v0 :: v0 :: v0 :: v0 :: v0 :: v0 :: v0 :: v0 :: v0 :: (vb false) :: (us 22 [])))))))) [(.var k0_ (vk k0_ d11)), (.row 9 true b12 l13)]
def ps6 : List PV := ((up 1 ((.ptr 0 [] k0_) :: (up 1 ((.sref 1) :: (.d (.int .i64) (.int .i64)) :: (.d (.int .i64) (.int .i64)) :: (up 47 []))))))
def qs6 : List PO := [q0_, (.row 9 true)]
noncomputable def t1 (M : Nat) : List Ent := ⟨55, 11, 0, 6, sumS [1, 3, 4, 5] ps6 qs6 [] of6 (st6 M) ex6 M⟩ :: []
theorem t1_ok (M : Nat) : AllOk (e M) (tblOf (t1 M)) := AllOk.addS (n0 := 2) (lv := lv6) AllOk.nil (by kernel_rfl) rfl (by intro ls s h; unfold of6 at h; (repeat' split at h) <;> simp at h; subst h; rfl) (by intro s; kernel_rfl) (by intro s; kernel_rfl) (by intro s nx k; kernel_rfl)
structure S3 where
  (n1 n2 : Nat) (i3 : Int) (d4 : D) (b5 : Bool) (l6 : List D)
inductive X3 where
  | e0 (n1 n2 : Nat) (i3 : Int) (d4 : D) (b5 : Bool) (l6 : List D)
def st3 (M : Nat) : S3 → (S3 → Option D) → (X3 → Option D) → Option D
  | ⟨n1, n2, i3, d4, b5, l6⟩, rec, K => (cond (ltI i3 (nI (d4.at 0).elems.length)) (goS (st6 M) M ⟨n1, n2, i3, 0, d4, b5, l6⟩ fun x => match x with | .e0 n7 n8 i9 i10 d11 b12 l13 r14 => (cond (true && (leI 0 i10) && (leN (n7 + i10.toNat) l13.length)) (cond (mx ((l13.drop (n7 + 0)).take (i10.toNat - 0)).length) (cond (inb i9 (d11.at 0).elems.length) (cond (mx (((l13.drop (n7 + 0)).take (i10.toNat - 0)).length + 1)) (cond ((leI 0 i10) && (leI i10 (nI n8)) && (leN (n7 + n8) l13.length)) (cond (mx ((((l13.drop (n7 + 0)).take (i10.toNat - 0)).length + 1) + ((l13.drop (n7 + i10.toNat)).take (n8 - i10.toNat)).length)) (rec ⟨0, ((((l13.drop (n7 + 0)).take (i10.toNat - 0)).length + 1) + ((l13.drop (n7 + i10.toNat)).take (n8 - i10.toNat)).length), (ad .i64 i9 1), d11, (((!((l13.drop (n7 + 0)).take (i10.toNat - 0)).isEmpty) || true) || (!((l13.drop (n7 + i10.toNat)).take (n8 - i10.toNat)).isEmpty)), (ap (((ap ((((l13.drop (n7 + 0)).take (i10.toNat - 0)).drop 0).take ((l13.drop (n7 + 0)).take (i10.toNat - 0)).length) [((ix (d11.at 0).elems i9.toNat).at 1)]).drop 0).take (((l13.drop (n7 + 0)).take (i10.toNat - 0)).length + 1)) ((l13.drop (n7 + i10.toNat)).take (n8 - i10.toNat)))⟩) none) none) none) none) none) none) | .e1 n7 n8 i9 i10 d11 b12 l13 => (cond (true && (leI 0 i10) && (leN (n7 + i10.toNat) l13.length)) (cond (mx ((l13.drop (n7 + 0)).take (i10.toNat - 0)).length) (cond (inb i9 (d11.at 0).elems.length) (cond (mx (((l13.drop (n7 + 0)).take (i10.toNat - 0)).length + 1)) (cond ((leI 0 i10) && (leI i10 (nI n8)) && (leN (n7 + n8) l13.length)) (cond (mx ((((l13.drop (n7 + 0)).take (i10.toNat - 0)).length + 1) + ((l13.drop (n7 + i10.toNat)).take (n8 - i10.toNat)).length)) (rec ⟨0, ((((l13.drop (n7 + 0)).take (i10.toNat - 0)).length + 1) + ((l13.drop (n7 + i10.toNat)).take (n8 - i10.toNat)).length), (ad .i64 i9 1), d11, (((!((l13.drop (n7 + 0)).take (i10.toNat - 0)).isEmpty) || true) || (!((l13.drop (n7 + i10.toNat)).take (n8 - i10.toNat)).isEmpty)), (ap (((ap ((((l13.drop (n7 + 0)).take (i10.toNat - 0)).drop 0).take ((l13.drop (n7 + 0)).take (i10.toNat - 0)).length) [((ix (d11.at 0).elems i9.toNat).at 1)]).drop 0).take (((l13.drop (n7 + 0)).take (i10.toNat - 0)).length + 1)) ((l13.drop (n7 + i10.toNat)).take (n8 - i10.toNat)))⟩) none) none) none) none) none) none)) (K (.e0 n1 n2 i3 d4 b5 l6)))
def lv3 : S3 → List Leaf
  | ⟨n1, n2, i3, d4, b5, l6⟩ => [.n n1, .n n2, .i i3, .d d4, .b b5, .l l6]
def of3 : List Leaf → Option S3
  | [.n n1, .n n2, .i i3, .d d4, .b b5, .l l6] => some ⟨n1, n2, i3, d4, b5, l6⟩
  | _ => none
def ex3 (k : Kont) : X3 → Option D
  | .e0 n1 n2 i3 d4 b5 l6 => k (.exit 0) ((us 1 ((.ptr 0 [] k0_) :: (us 1 ((.sref 1 n1 n2) :: (vi i3) :: (us 2 ((vi i3) :: (.ptr 0 [0] (.slice 39)) :: (vk (.slice 39) (d4.at 0)) :: (vi (nI (d4.at 0).elems.length)) :: (vb (ltI i3 (nI (d4.at 0).elems.length))) :: (us 41 [])))))))) [(.var k0_ (vk k0_ d4)), (.row 9 true b5 l6)]
def ps3 : List PV := ((up 1 ((.ptr 0 [] k0_) :: (up 1 ((.sref 1) :: (.d (.int .i64) (.int .i64)) :: (up 48 []))))))
def qs3 : List PO := [q0_, (.row 9 true)]
noncomputable def t (M : Nat) : List Ent := ⟨55, 11, 0, 3, sumS [1, 3, 4] ps3 qs3 [(3, 1)] of3 (st3 M) ex3 M⟩ :: t1 M
theorem t_ok (M : Nat) : AllOk (e M) (tblOf (t M)) := AllOk.addS (n0 := 2) (lv := lv3) (t1_ok M) (by kernel_rfl) rfl (by intro ls s h; unfold of3 at h; (repeat' split at h) <;> simp at h; subst h; rfl) (by intro s; kernel_rfl) (by intro s; kernel_rfl) (by intro s nx k; kernel_rfl)
def s (M : Nat) (p0 : D) : Option D :=
  (goS (st3 M) M ⟨0, 0, 0, p0, false, []⟩ fun x => match x with | .e0 n1 n2 i3 d4 b5 l6 => (cond ((decide (n2 = l6.length)) && (decide (n1 = 0))) (some (.slice b5 l6)) none))
theorem run (M : Nat) (p0 : D) : callS (e M) (tblOf (t M)) 12 (.fn 55) [.d (.struct [25, 3, 3]) p0] [] (fun v H => finishFresh ty [37] v H) = s M p0 := by kernel_rfl
def c : Con := { run := fun ds => match ds with | [p0] => s FUEL p0 | _ => none, fresh := true }
theorem ok : ConOk (55, c) := mkF Tryz.f55 [(.struct [25, 3, 3])] [37] (by kernel_rfl) (by kernel_rfl) (by kernel_rfl) (allCons F104.ok allNil) allNil (t_ok FUEL) fun a => run FUEL a.1
end F55
namespace F56
def cons : List (Nat × Con) := []
def exts : List (Nat × Ext) := []
def h : List (Nat × Nat × Hint) := []
noncomputable def e (M : Nat) : Env := env cons exts h M
def s (M : Nat) (p0 : D) (p1 : Int) (p2 : Int) : Option D :=
  (cond (ltI p1 0) (some (D.tup [(dS (bs [])), (di 1)])) (cond (ltI p2 p1) (some (D.tup [(dS (bs [])), (di 1)])) (cond (gtI p2 (nI (p0.at 2).s.size)) (some (D.tup [(dS (bs [])), (di 1)])) (cond ((leI 0 p1) && (leI p1 p2) && (leI p2 (nI (p0.at 2).s.size)) && (leI (nI (p0.at 2).s.size) (nI (p0.at 2).s.size))) (some (D.tup [(dS ((p0.at 2).s.extract p1.toNat p2.toNat)), (di 0)])) none))))
theorem run (M : Nat) (p0 : D) (p1 : Int) (p2 : Int) : callS (e M) (tblOf []) 12 (.fn 56) [.d (.struct [3, 9, 9, 4, 3, 37]) p0, .d (.int .i64) (di p1), .d (.int .i64) (di p2)] [] (fun v H => finish ty [9, 36] v H) = s M p0 p1 p2 := by kernel_rfl
def c : Con := { run := fun ds => match ds with | [p0, p1, p2] => s FUEL p0 p1.i p2.i | _ => none, plain := true }
theorem ok : ConOk (56, c) := mkC Tryz.f56 [(.struct [3, 9, 9, 4, 3, 37]), (.int .i64), (.int .i64)] [9, 36] (by kernel_rfl) (by kernel_rfl) (by kernel_rfl) (by kernel_rfl) allNil allNil AllOk.nil fun a => run FUEL a.1 a.2.1 a.2.2.1
end F56
namespace F105
def cons : List (Nat × Con) := []
def exts : List (Nat × Ext) := []
def h : List (Nat × Nat × Hint) := []
noncomputable def e (M : Nat) : Env := env cons exts h M
def s (M : Nat) (p0 : D) (p1 : ByteArray) : Option D :=
  (cond (p0.at 3).b (some (D.tup [p0, (di 5)])) (cond (eqS p1 (bs [])) (some (D.tup [p0, (di 1)])) (cond (gtI (ad .i64 (nI (p0.at 2).s.size) (nI p1.size)) 600) (some (D.tup [p0, (di 10)])) (bd (cat (p0.at 2).s p1) fun r1 => (some (D.tup [(D.agg (p0.parts.set 2 r1)), (di 0)]))))))
theorem run (M : Nat) (p0 : D) (p1 : ByteArray) : callS (e M) (tblOf []) 12 (.fn 105) [.d (.struct [3, 9, 9, 4, 3, 37]) p0, .d .str (dS p1)] [] (fun v H => finish ty [39, 36] v H) = s M p0 p1 := by kernel_rfl
def c : Con := { run := fun ds => match ds with | [p0, p1] => s FUEL p0 p1.s | _ => none }
theorem ok : ConOk (105, c) := mkC Tryz.f105 [(.struct [3, 9, 9, 4, 3, 37]), .str] [39, 36] (by kernel_rfl) (by kernel_rfl) (by kernel_rfl) (by kernel_rfl) allNil allNil AllOk.nil fun a => run FUEL a.1 a.2.1
end F105
namespace F92
def cons : List (Nat × Con) := []
def exts : List (Nat × Ext) := []
def h : List (Nat × Nat × Hint) := []
noncomputable def e (M : Nat) : Env := env cons exts h M
def s (M : Nat) (p0 : D) (p1 : Int) : Option D :=
  (cond (p0.at 3).b (some (D.tup [p0, (di 5)])) (cond (ltI p1 0) (some (D.tup [p0, (di 1)])) (cond (gtI p1 1099511627776) (some (D.tup [p0, (di 1)])) (some (D.tup [(D.agg ((D.agg (p0.parts.set 3 (db true))).parts.set 4 (di p1))), (di 0)])))))
theorem run (M : Nat) (p0 : D) (p1 : Int) : callS (e M) (tblOf []) 12 (.fn 92) [.d (.struct [3, 9, 9, 4, 3, 37]) p0, .d (.int .i64) (di p1)] [] (fun v H => finish ty [39, 36] v H) = s M p0 p1 := by kernel_rfl
def c : Con := { run := fun ds => match ds with | [p0, p1] => s FUEL p0 p1.i | _ => none }
theorem ok : ConOk (92, c) := mkC Tryz.f92 [(.struct [3, 9, 9, 4, 3, 37]), (.int .i64)] [39, 36] (by kernel_rfl) (by kernel_rfl) (by kernel_rfl) (by kernel_rfl) allNil allNil AllOk.nil fun a => run FUEL a.1 a.2.1
end F92
namespace F96
def cons : List (Nat × Con) := []
def exts : List (Nat × Ext) := []
def h : List (Nat × Nat × Hint) := []
noncomputable def e (M : Nat) : Env := env cons exts h M
def s (M : Nat)  : Option D :=
  (some (da [(D.int .u32 1779033703), (D.int .u32 3144134277), (D.int .u32 1013904242), (D.int .u32 2773480762), (D.int .u32 1359893119), (D.int .u32 2600822924), (D.int .u32 528734635), (D.int .u32 1541459225)]))
theorem run (M : Nat)  : callS (e M) (tblOf []) 12 (.fn 96) [] [] (fun v H => finish ty [140] v H) = s M  := by kernel_rfl
def c : Con := { run := fun ds => match ds with | [] => s FUEL  | _ => none, plain := true }
theorem ok : ConOk (96, c) := mkC Tryz.f96 [] [140] (by kernel_rfl) (by kernel_rfl) (by kernel_rfl) (by kernel_rfl) allNil allNil AllOk.nil fun _ => run FUEL
end F96
namespace F97
def cons : List (Nat × Con) := []
def exts : List (Nat × Ext) := []
def h : List (Nat × Nat × Hint) := []
noncomputable def e (M : Nat) : Env := env cons exts h M
def s (M : Nat)  : Option D :=
  (some (da [(D.int .u32 1116352408), (D.int .u32 1899447441), (D.int .u32 3049323471), (D.int .u32 3921009573), (D.int .u32 961987163), (D.int .u32 1508970993), (D.int .u32 2453635748), (D.int .u32 2870763221), (D.int .u32 3624381080), (D.int .u32 310598401), (D.int .u32 607225278), (D.int .u32 1426881987), (D.int .u32 1925078388), (D.int .u32 2162078206), (D.int .u32 2614888103), (D.int .u32 3248222580), (D.int .u32 3835390401), (D.int .u32 4022224774), (D.int .u32 264347078), (D.int .u32 604807628), (D.int .u32 770255983), (D.int .u32 1249150122), (D.int .u32 1555081692), (D.int .u32 1996064986), (D.int .u32 2554220882), (D.int .u32 2821834349), (D.int .u32 2952996808), (D.int .u32 3210313671), (D.int .u32 3336571891), (D.int .u32 3584528711), (D.int .u32 113926993), (D.int .u32 338241895), (D.int .u32 666307205), (D.int .u32 773529912), (D.int .u32 1294757372), (D.int .u32 1396182291), (D.int .u32 1695183700), (D.int .u32 1986661051), (D.int .u32 2177026350), (D.int .u32 2456956037), (D.int .u32 2730485921), (D.int .u32 2820302411), (D.int .u32 3259730800), (D.int .u32 3345764771), (D.int .u32 3516065817), (D.int .u32 3600352804), (D.int .u32 4094571909), (D.int .u32 275423344), (D.int .u32 430227734), (D.int .u32 506948616), (D.int .u32 659060556), (D.int .u32 883997877), (D.int .u32 958139571), (D.int .u32 1322822218), (D.int .u32 1537002063), (D.int .u32 1747873779), (D.int .u32 1955562222), (D.int .u32 2024104815), (D.int .u32 2227730452), (D.int .u32 2361852424), (D.int .u32 2428436474), (D.int .u32 2756734187), (D.int .u32 3204031479), (D.int .u32 3329325298)]))
theorem run (M : Nat)  : callS (e M) (tblOf []) 12 (.fn 97) [] [] (fun v H => finish ty [141] v H) = s M  := by kernel_rfl
def c : Con := { run := fun ds => match ds with | [] => s FUEL  | _ => none, plain := true }
theorem ok : ConOk (97, c) := mkC Tryz.f97 [] [141] (by kernel_rfl) (by kernel_rfl) (by kernel_rfl) (by kernel_rfl) allNil allNil AllOk.nil fun _ => run FUEL
end F97
namespace F98
def cons : List (Nat × Con) := []
def exts : List (Nat × Ext) := []
def h : List (Nat × Nat × Hint) := [(98, 2, { own := true }), (98, 3, { live := [0, 3], rows := [(3, 5)] }), (98, 4, { own := true }), (98, 8, { live := [3, 4, 5, 6], rows := [(5, 5)] }), (98, 10, { own := true })]
noncomputable def e (M : Nat) : Env := env cons exts h M
structure S3 where
  (s1 : ByteArray) (n2 n3 : Nat) (b4 : Bool) (l5 : List D) (b6 : Bool) (l7 : List D)
inductive X3 where
  | e0 (s1 : ByteArray) (n2 n3 : Nat) (b4 : Bool) (l5 : List D) (b6 : Bool) (l7 : List D)
def st3 (M : Nat) : S3 → (S3 → Option D) → (X3 → Option D) → Option D
  | ⟨s1, n2, n3, b4, l5, b6, l7⟩, rec, K => (cond (neI (remI (nI n3) 64) 56) (cond (mx (n3 + 1)) (rec ⟨s1, 0, (n3 + 1), b4, l5, (b6 || true), (ap ((l7.drop n2).take n3) [(D.int .u8 0)])⟩) none) (K (.e0 s1 n2 n3 b4 l5 b6 l7)))
def lv3 : S3 → List Leaf
  | ⟨s1, n2, n3, b4, l5, b6, l7⟩ => [.s s1, .n n2, .n n3, .b b4, .l l5, .b b6, .l l7]
def of3 : List Leaf → Option S3
  | [.s s1, .n n2, .n n3, .b b4, .l l5, .b b6, .l l7] => some ⟨s1, n2, n3, b4, l5, b6, l7⟩
  | _ => none
def ex3 (k : Kont) : X3 → Option D
  | .e0 s1 n2 n3 b4 l5 b6 l7 => k (.exit 0) ((vS s1) :: (us 2 ((.sref 2 n2 n3) :: (us 8 ((.sref 2 n2 n3) :: (vi (nI n3)) :: (vi (remI (nI n3) 64)) :: (vb (neI (remI (nI n3) 64) 56)) :: (us 23 [])))))) [.dead, (.row 5 true b4 l5), (.row 5 true b6 l7)]
def ps3 : List PV := ((.d .str .str) :: (up 2 ((.sref 2) :: (up 35 []))))
def qs3 : List PO := [.dead, (.row 5 true), (.row 5 true)]
noncomputable def t1 (M : Nat) : List Ent := ⟨98, 11, 0, 3, sumS [0, 3] ps3 qs3 [(3, 2)] of3 (st3 M) ex3 M⟩ :: []
theorem t1_ok (M : Nat) : AllOk (e M) (tblOf (t1 M)) := AllOk.addS (n0 := 3) (lv := lv3) AllOk.nil (by kernel_rfl) rfl (by intro ls s h; unfold of3 at h; (repeat' split at h) <;> simp at h; subst h; rfl) (by intro s; kernel_rfl) (by intro s; kernel_rfl) (by intro s nx k; kernel_rfl)
structure S8 where
  (n8 n9 : Nat) (i10 : Int) (n11 n12 : Nat) (i13 : Int) (b14 : Bool) (l15 : List D) (b16 : Bool) (l17 : List D) (b18 : Bool) (l19 : List D)
inductive X8 where
  | e0 (n8 n9 : Nat) (i10 : Int) (n11 n12 : Nat) (i13 : Int) (b14 : Bool) (l15 : List D) (b16 : Bool) (l17 : List D) (b18 : Bool) (l19 : List D)
def st8 (M : Nat) : S8 → (S8 → Option D) → (X8 → Option D) → Option D
  | ⟨n8, n9, i10, n11, n12, i13, b14, l15, b16, l17, b18, l19⟩, rec, K => (cond (ltI i13 8) (cond (mx (1 + ((l19.drop n11).take n12).length)) (rec ⟨n8, n9, (quoI .u64 i10 256), 0, (1 + ((l19.drop n11).take n12).length), (ad .i64 i13 1), b14, l15, b16, l17, true, (ap [(D.int .u8 (cv .u8 (remI i10 256)))] ((l19.drop n11).take n12))⟩) none) (K (.e0 n8 n9 i10 n11 n12 i13 b14 l15 b16 l17 b18 l19)))
def lv8 : S8 → List Leaf
  | ⟨n8, n9, i10, n11, n12, i13, b14, l15, b16, l17, b18, l19⟩ => [.n n8, .n n9, .i i10, .n n11, .n n12, .i i13, .b b14, .l l15, .b b16, .l l17, .b b18, .l l19]
def of8 : List Leaf → Option S8
  | [.n n8, .n n9, .i i10, .n n11, .n n12, .i i13, .b b14, .l l15, .b b16, .l l17, .b b18, .l l19] => some ⟨n8, n9, i10, n11, n12, i13, b14, l15, b16, l17, b18, l19⟩
  | _ => none
def ex8 (k : Kont) : X8 → Option D
  | .e0 n8 n9 i10 n11 n12 i13 b14 l15 b16 l17 b18 l19 => k (.exit 2) ((us 3 ((.sref 2 n8 n9) :: (vk (.int .u64) (D.int .u64 i10)) :: (.sref 3 n11 n12) :: (vi i13) :: (us 16 ((vi i13) :: (vb (ltI i13 8)) :: (us 14 [])))))) [.dead, (.row 5 true b14 l15), (.row 5 true b16 l17), (.row 5 true b18 l19)]
def ps8 : List PV := ((up 3 ((.sref 2) :: (.d (.int .u64) (.int .u64)) :: (.sref 3) :: (.d (.int .i64) (.int .i64)) :: (up 32 []))))
def qs8 : List PO := [.dead, (.row 5 true), (.row 5 true), (.row 5 true)]
noncomputable def t (M : Nat) : List Ent := ⟨98, 11, 0, 8, sumS [3, 4, 5, 6] ps8 qs8 [(5, 3)] of8 (st8 M) ex8 M⟩ :: t1 M
theorem t_ok (M : Nat) : AllOk (e M) (tblOf (t M)) := AllOk.addS (n0 := 4) (lv := lv8) (t1_ok M) (by kernel_rfl) rfl (by intro ls s h; unfold of8 at h; (repeat' split at h) <;> simp at h; subst h; rfl) (by intro s; kernel_rfl) (by intro s; kernel_rfl) (by intro s nx k; kernel_rfl)
def s (M : Nat) (p0 : ByteArray) : Option D :=
  (cond (mx p0.size) (cond (mx (p0.size + 1)) (goS (st3 M) M ⟨p0, 0, (p0.size + 1), true, [(D.int .u8 128)], true, (ap (((bytesOf p0).drop 0).take p0.size) [(D.int .u8 128)])⟩ fun x => match x with | .e0 s1 n2 n3 b4 l5 b6 l7 => (goS (st8 M) M ⟨n2, n3, (ml .u64 (cv .u64 (nI s1.size)) 8), 0, 0, 0, b4, l5, b6, l7, false, []⟩ fun x => match x with | .e0 n8 n9 i10 n11 n12 i13 b14 l15 b16 l17 b18 l19 => (cond (mx (n9 + ((l19.drop n11).take n12).length)) (some (dS (ofBytes (((ap ((l17.drop n8).take n9) ((l19.drop n11).take n12)).drop 0).take (n9 + ((l19.drop n11).take n12).length))))) none))) none) none)
theorem run (M : Nat) (p0 : ByteArray) : callS (e M) (tblOf (t M)) 12 (.fn 98) [.d .str (dS p0)] [] (fun v H => finish ty [9] v H) = s M p0 := by kernel_rfl
def c : Con := { run := fun ds => match ds with | [p0] => s FUEL p0.s | _ => none, plain := true }
theorem ok : ConOk (98, c) := mkC Tryz.f98 [.str] [9] (by kernel_rfl) (by kernel_rfl) (by kernel_rfl) (by kernel_rfl) allNil allNil (t_ok FUEL) fun a => run FUEL a.1
end F98
namespace F99
def cons : List (Nat × Con) := []
def exts : List (Nat × Ext) := []
def h : List (Nat × Nat × Hint) := [(99, 2, { live := [0, 1, 5] })]
noncomputable def e (M : Nat) : Env := env cons exts h M
structure S2 where
  (i1 i2 i3 : Int)
inductive X2 where
  | e0 (i1 i2 i3 : Int)
def st2 (M : Nat) : S2 → (S2 → Option D) → (X2 → Option D) → Option D
  | ⟨i1, i2, i3⟩, rec, K => (cond (ltI i3 i2) (cond (eqI (remI i1 2) 1) (rec ⟨(ad .u32 (quoI .u32 i1 2) 2147483648), i2, (ad .i64 i3 1)⟩) (rec ⟨(quoI .u32 i1 2), i2, (ad .i64 i3 1)⟩)) (K (.e0 i1 i2 i3)))
def lv2 : S2 → List Leaf
  | ⟨i1, i2, i3⟩ => [.i i1, .i i2, .i i3]
def of2 : List Leaf → Option S2
  | [.i i1, .i i2, .i i3] => some ⟨i1, i2, i3⟩
  | _ => none
def ex2 (k : Kont) : X2 → Option D
  | .e0 i1 i2 i3 => k (.exit 0) ((vk (.int .u32) (D.int .u32 i1)) :: (vi i2) :: (us 3 ((vi i3) :: (us 1 ((vi i3) :: (vi i2) :: (vb (ltI i3 i2)) :: (us 11 [])))))) []
def ps2 : List PV := ((.d (.int .u32) (.int .u32)) :: (.d (.int .i64) (.int .i64)) :: (up 3 ((.d (.int .i64) (.int .i64)) :: (up 15 []))))
def qs2 : List PO := []
noncomputable def t (M : Nat) : List Ent := ⟨99, 11, 0, 2, sumS [0, 1, 5] ps2 qs2 [] of2 (st2 M) ex2 M⟩ :: []
theorem t_ok (M : Nat) : AllOk (e M) (tblOf (t M)) := AllOk.addS (n0 := 0) (lv := lv2) AllOk.nil (by kernel_rfl) rfl (by intro ls s h; unfold of2 at h; (repeat' split at h) <;> simp at h; subst h; rfl) (by intro s; kernel_rfl) (by intro s; kernel_rfl) (by intro s nx k; kernel_rfl)
def s (M : Nat) (p0 : Int) (p1 : Int) : Option D :=
  (goS (st2 M) M ⟨p0, p1, 0⟩ fun x => match x with | .e0 i1 i2 i3 => (some (D.int .u32 i1)))
theorem run (M : Nat) (p0 : Int) (p1 : Int) : callS (e M) (tblOf (t M)) 12 (.fn 99) [.d (.int .u32) (D.int .u32 p0), .d (.int .i64) (di p1)] [] (fun v H => finish ty [139] v H) = s M p0 p1 := by kernel_rfl
def c : Con := { run := fun ds => match ds with | [p0, p1] => s FUEL p0.i p1.i | _ => none, plain := true }
theorem ok : ConOk (99, c) := mkC Tryz.f99 [(.int .u32), (.int .i64)] [139] (by kernel_rfl) (by kernel_rfl) (by kernel_rfl) (by kernel_rfl) allNil allNil (t_ok FUEL) fun a => run FUEL a.1 a.2.1
end F99
namespace F100
def cons : List (Nat × Con) := []
def exts : List (Nat × Ext) := []
def h : List (Nat × Nat × Hint) := [(100, 2, { live := [0, 1, 5] })]
noncomputable def e (M : Nat) : Env := env cons exts h M
structure S2 where
  (i1 i2 i3 : Int)
inductive X2 where
  | e0 (i1 i2 i3 : Int)
def st2 (M : Nat) : S2 → (S2 → Option D) → (X2 → Option D) → Option D
  | ⟨i1, i2, i3⟩, rec, K => (cond (ltI i3 i2) (rec ⟨(quoI .u32 i1 2), i2, (ad .i64 i3 1)⟩) (K (.e0 i1 i2 i3)))
def lv2 : S2 → List Leaf
  | ⟨i1, i2, i3⟩ => [.i i1, .i i2, .i i3]
def of2 : List Leaf → Option S2
  | [.i i1, .i i2, .i i3] => some ⟨i1, i2, i3⟩
  | _ => none
def ex2 (k : Kont) : X2 → Option D
  | .e0 i1 i2 i3 => k (.exit 0) ((vk (.int .u32) (D.int .u32 i1)) :: (vi i2) :: (us 3 ((vi i3) :: (vi i3) :: (vi i2) :: (vb (ltI i3 i2)) :: (us 5 [])))) []
def ps2 : List PV := ((.d (.int .u32) (.int .u32)) :: (.d (.int .i64) (.int .i64)) :: (up 3 ((.d (.int .i64) (.int .i64)) :: (up 8 []))))
def qs2 : List PO := []
noncomputable def t (M : Nat) : List Ent := ⟨100, 11, 0, 2, sumS [0, 1, 5] ps2 qs2 [] of2 (st2 M) ex2 M⟩ :: []
theorem t_ok (M : Nat) : AllOk (e M) (tblOf (t M)) := AllOk.addS (n0 := 0) (lv := lv2) AllOk.nil (by kernel_rfl) rfl (by intro ls s h; unfold of2 at h; (repeat' split at h) <;> simp at h; subst h; rfl) (by intro s; kernel_rfl) (by intro s; kernel_rfl) (by intro s nx k; kernel_rfl)
def s (M : Nat) (p0 : Int) (p1 : Int) : Option D :=
  (goS (st2 M) M ⟨p0, p1, 0⟩ fun x => match x with | .e0 i1 i2 i3 => (some (D.int .u32 i1)))
theorem run (M : Nat) (p0 : Int) (p1 : Int) : callS (e M) (tblOf (t M)) 12 (.fn 100) [.d (.int .u32) (D.int .u32 p0), .d (.int .i64) (di p1)] [] (fun v H => finish ty [139] v H) = s M p0 p1 := by kernel_rfl
def c : Con := { run := fun ds => match ds with | [p0, p1] => s FUEL p0.i p1.i | _ => none, plain := true }
theorem ok : ConOk (100, c) := mkC Tryz.f100 [(.int .u32), (.int .i64)] [139] (by kernel_rfl) (by kernel_rfl) (by kernel_rfl) (by kernel_rfl) allNil allNil (t_ok FUEL) fun a => run FUEL a.1 a.2.1
end F100
namespace F44
def cons : List (Nat × Con) := [(96, F96.c), (97, F97.c), (98, F98.c), (99, F99.c), (100, F100.c)]
def exts : List (Nat × Ext) := []
def h : List (Nat × Nat × Hint) := [(44, 5, { live := [2, 3, 4, 5, 6] }), (44, 9, { live := [2, 3, 4, 5, 6, 7, 8] }), (44, 13, { live := [2, 3, 4, 5, 6, 7, 8, 9] }), (44, 21, { live := [2, 3, 4, 5, 6, 7, 12, 13] }), (44, 30, { live := [2, 3, 4, 5, 6, 12, 19] }), (44, 35, { live := [2, 3, 20, 21] }), (44, 39, { live := [2, 3, 20, 21, 22, 23] })]
def q0_ : PO := (.var (.array 64 139) (.d (.array 64 139) .x))
def q1_ : PO := (.var (.array 8 139) (.d (.array 8 139) .x))
def q2_ : PO := (.var (.array 32 5) (.d (.array 32 5) .x))
noncomputable def e (M : Nat) : Env := env cons exts h M
structure S13 where
  (d16 : D) (i17 i18 i19 : Int) (d20 d21 d22 d23 : D)
inductive X13 where
  | e0 (d16 : D) (i17 i18 i19 : Int) (d20 d21 d22 d23 : D)
def st13 (M : Nat) : S13 → (S13 → Option D) → (X13 → Option D) → Option D
  | ⟨d16, i17, i18, i19, d20, d21, d22, d23⟩, rec, K => (cond (ltI i19 4) (cond (inb i18 64) (cond (inb (ad .i64 (ad .i64 i17 (ml .i64 4 i18)) i19) d16.s.size) (cond (inb i18 64) (rec ⟨d16, i17, i18, (ad .i64 i19 1), d20, d21, d22, (D.agg (d23.parts.set i18.toNat (D.int .u32 (ad .u32 (ml .u32 (d23.at i18.toNat).i 256) (cv .u32 (byteAt d16.s (ad .i64 (ad .i64 i17 (ml .i64 4 i18)) i19).toNat))))))⟩) none) none) none) (K (.e0 d16 i17 i18 i19 d20 d21 d22 d23)))
def lv13 : S13 → List Leaf
  | ⟨d16, i17, i18, i19, d20, d21, d22, d23⟩ => [.d d16, .i i17, .i i18, .i i19, .d d20, .d d21, .d d22, .d d23]
def of13 : List Leaf → Option S13
  | [.d d16, .i i17, .i i18, .i i19, .d d20, .d d21, .d d22, .d d23] => some ⟨d16, i17, i18, i19, d20, d21, d22, d23⟩
  | _ => none
def ex13 (k : Kont) : X13 → Option D
  | .e0 d16 i17 i18 i19 d20 d21 d22 d23 => k (.exit 4) ((us 2 ((.ptr 0 [] (.array 32 5)) :: (.ptr 1 [] (.array 8 139)) :: (.ptr 2 [] (.array 64 139)) :: (vk .str d16) :: (vi i17) :: (.ptr 3 [] (.array 64 139)) :: (vi i18) :: (vi i19) :: (us 30 ((vi i19) :: (vb (ltI i19 4)) :: (us 174 [])))))) [(.var (.array 32 5) (vk (.array 32 5) d20)), (.var (.array 8 139) (vk (.array 8 139) d21)), (.var (.array 64 139) (vk (.array 64 139) d22)), (.var (.array 64 139) (vk (.array 64 139) d23))]
def ps13 : List PV := ((up 2 ((.ptr 0 [] (.array 32 5)) :: (.ptr 1 [] (.array 8 139)) :: (.ptr 2 [] (.array 64 139)) :: (.d .str .x) :: (.d (.int .i64) (.int .i64)) :: (.ptr 3 [] (.array 64 139)) :: (.d (.int .i64) (.int .i64)) :: (.d (.int .i64) (.int .i64)) :: (up 206 []))))
def qs13 : List PO := [q2_, q1_, q0_, q0_]
noncomputable def t1 (M : Nat) : List Ent := ⟨44, 11, 0, 13, sumS [2, 3, 4, 5, 6, 7, 8, 9] ps13 qs13 [] of13 (st13 M) ex13 M⟩ :: []
theorem t1_ok (M : Nat) : AllOk (e M) (tblOf (t1 M)) := AllOk.addS (n0 := 4) (lv := lv13) AllOk.nil (by kernel_rfl) rfl (by intro ls s h; unfold of13 at h; (repeat' split at h) <;> simp at h; subst h; rfl) (by intro s; kernel_rfl) (by intro s; kernel_rfl) (by intro s nx k; kernel_rfl)
structure S9 where
  (d9 : D) (i10 i11 : Int) (d12 d13 d14 d15 : D)
inductive X9 where
  | e0 (d9 : D) (i10 i11 : Int) (d12 d13 d14 d15 : D)
def st9 (M : Nat) : S9 → (S9 → Option D) → (X9 → Option D) → Option D
  | ⟨d9, i10, i11, d12, d13, d14, d15⟩, rec, K => (cond (ltI i11 64) (cond (ltI i11 16) (goS (st13 M) M ⟨d9, i10, i11, 0, d12, d13, d14, d15⟩ fun x => match x with | .e0 d16 i17 i18 i19 d20 d21 d22 d23 => (rec ⟨d16, i17, (ad .i64 i18 1), d20, d21, d22, d23⟩)) (cond (inb (sb .i64 i11 15) 64) (cond (inb (sb .i64 i11 2) 64) (bd (F99.s FUEL (d15.at (sb .i64 i11 2).toNat).i 17) fun r24 => (bd (F99.s FUEL (d15.at (sb .i64 i11 2).toNat).i 19) fun r25 => (bd (F100.s FUEL (d15.at (sb .i64 i11 2).toNat).i 10) fun r26 => (cond (inb (sb .i64 i11 7) 64) (bd (F99.s FUEL (d15.at (sb .i64 i11 15).toNat).i 7) fun r27 => (bd (F99.s FUEL (d15.at (sb .i64 i11 15).toNat).i 18) fun r28 => (bd (F100.s FUEL (d15.at (sb .i64 i11 15).toNat).i 3) fun r29 => (cond (inb (sb .i64 i11 16) 64) (cond (inb i11 64) (rec ⟨d9, i10, (ad .i64 i11 1), d12, d13, d14, (D.agg (d15.parts.set i11.toNat (D.int .u32 (ad .u32 (ad .u32 (ad .u32 (xorI .u32 (xorI .u32 r24.i r25.i) r26.i) (d15.at (sb .i64 i11 7).toNat).i) (xorI .u32 (xorI .u32 r27.i r28.i) r29.i)) (d15.at (sb .i64 i11 16).toNat).i))))⟩) none) none)))) none)))) none) none)) (K (.e0 d9 i10 i11 d12 d13 d14 d15)))
def lv9 : S9 → List Leaf
  | ⟨d9, i10, i11, d12, d13, d14, d15⟩ => [.d d9, .i i10, .i i11, .d d12, .d d13, .d d14, .d d15]
def of9 : List Leaf → Option S9
  | [.d d9, .i i10, .i i11, .d d12, .d d13, .d d14, .d d15] => some ⟨d9, i10, i11, d12, d13, d14, d15⟩
  | _ => none
def ex9 (k : Kont) : X9 → Option D
  | .e0 d9 i10 i11 d12 d13 d14 d15 => k (.exit 2) ((us 2 ((.ptr 0 [] (.array 32 5)) :: (.ptr 1 [] (.array 8 139)) :: (.ptr 2 [] (.array 64 139)) :: (vk .str d9) :: (vi i10) :: (.ptr 3 [] (.array 64 139)) :: (vi i11) :: (us 25 ((vi i11) :: (vb (ltI i11 64)) :: (us 180 [])))))) [(.var (.array 32 5) (vk (.array 32 5) d12)), (.var (.array 8 139) (vk (.array 8 139) d13)), (.var (.array 64 139) (vk (.array 64 139) d14)), (.var (.array 64 139) (vk (.array 64 139) d15))]
def ps9 : List PV := ((up 2 ((.ptr 0 [] (.array 32 5)) :: (.ptr 1 [] (.array 8 139)) :: (.ptr 2 [] (.array 64 139)) :: (.d .str .x) :: (.d (.int .i64) (.int .i64)) :: (.ptr 3 [] (.array 64 139)) :: (.d (.int .i64) (.int .i64)) :: (up 207 []))))
def qs9 : List PO := [q2_, q1_, q0_, q0_]
noncomputable def t2 (M : Nat) : List Ent := ⟨44, 11, 0, 9, sumS [2, 3, 4, 5, 6, 7, 8] ps9 qs9 [] of9 (st9 M) ex9 M⟩ :: t1 M
theorem t2_ok (M : Nat) : AllOk (e M) (tblOf (t2 M)) := AllOk.addS (n0 := 4) (lv := lv9) (t1_ok M) (by kernel_rfl) rfl (by intro ls s h; unfold of9 at h; (repeat' split at h) <;> simp at h; subst h; rfl) (by intro s; kernel_rfl) (by intro s; kernel_rfl) (by intro s nx k; kernel_rfl)
structure S21 where
  (d30 : D) (i31 i32 : Int) (d33 d34 d35 d36 d37 : D)
inductive X21 where
  | e0 (d30 : D) (i31 i32 : Int) (d33 d34 d35 d36 d37 : D)
def st21 (M : Nat) : S21 → (S21 → Option D) → (X21 → Option D) → Option D
  | ⟨d30, i31, i32, d33, d34, d35, d36, d37⟩, rec, K => (cond (ltI i32 64) (bd (F99.s FUEL (d37.at 4).i 6) fun r38 => (bd (F99.s FUEL (d37.at 4).i 11) fun r39 => (bd (F99.s FUEL (d37.at 4).i 25) fun r40 => (cond (inb i32 64) (cond (inb i32 64) (bd (F99.s FUEL (d37.at 0).i 2) fun r41 => (bd (F99.s FUEL (d37.at 0).i 13) fun r42 => (bd (F99.s FUEL (d37.at 0).i 22) fun r43 => (rec ⟨d30, i31, (ad .i64 i32 1), d33, d34, d35, d36, (da [(D.int .u32 (ad .u32 (ad .u32 (ad .u32 (ad .u32 (ad .u32 (d37.at 7).i (xorI .u32 (xorI .u32 r38.i r39.i) r40.i)) (xorI .u32 (andI .u32 (d37.at 4).i (d37.at 5).i) (andI .u32 (sb .u32 4294967295 (d37.at 4).i) (d37.at 6).i))) (d35.at i32.toNat).i) (d36.at i32.toNat).i) (ad .u32 (xorI .u32 (xorI .u32 r41.i r42.i) r43.i) (xorI .u32 (xorI .u32 (andI .u32 (d37.at 0).i (d37.at 1).i) (andI .u32 (d37.at 0).i (d37.at 2).i)) (andI .u32 (d37.at 1).i (d37.at 2).i))))), (d37.at 0), (d37.at 1), (d37.at 2), (D.int .u32 (ad .u32 (d37.at 3).i (ad .u32 (ad .u32 (ad .u32 (ad .u32 (d37.at 7).i (xorI .u32 (xorI .u32 r38.i r39.i) r40.i)) (xorI .u32 (andI .u32 (d37.at 4).i (d37.at 5).i) (andI .u32 (sb .u32 4294967295 (d37.at 4).i) (d37.at 6).i))) (d35.at i32.toNat).i) (d36.at i32.toNat).i))), (d37.at 4), (d37.at 5), (d37.at 6)])⟩)))) none) none)))) (K (.e0 d30 i31 i32 d33 d34 d35 d36 d37)))
def lv21 : S21 → List Leaf
  | ⟨d30, i31, i32, d33, d34, d35, d36, d37⟩ => [.d d30, .i i31, .i i32, .d d33, .d d34, .d d35, .d d36, .d d37]
def of21 : List Leaf → Option S21
  | [.d d30, .i i31, .i i32, .d d33, .d d34, .d d35, .d d36, .d d37] => some ⟨d30, i31, i32, d33, d34, d35, d36, d37⟩
  | _ => none
def ex21 (k : Kont) : X21 → Option D
  | .e0 d30 i31 i32 d33 d34 d35 d36 d37 => k (.exit 6) ((us 2 ((.ptr 0 [] (.array 32 5)) :: (.ptr 1 [] (.array 8 139)) :: (.ptr 2 [] (.array 64 139)) :: (vk .str d30) :: (vi i31) :: (.ptr 3 [] (.array 64 139)) :: (us 4 ((.ptr 4 [] (.array 8 139)) :: (vi i32) :: (us 84 ((vi i32) :: (vb (ltI i32 64)) :: (us 116 [])))))))) [(.var (.array 32 5) (vk (.array 32 5) d33)), (.var (.array 8 139) (vk (.array 8 139) d34)), (.var (.array 64 139) (vk (.array 64 139) d35)), (.var (.array 64 139) (vk (.array 64 139) d36)), (.var (.array 8 139) (vk (.array 8 139) d37))]
def ps21 : List PV := ((up 2 ((.ptr 0 [] (.array 32 5)) :: (.ptr 1 [] (.array 8 139)) :: (.ptr 2 [] (.array 64 139)) :: (.d .str .x) :: (.d (.int .i64) (.int .i64)) :: (.ptr 3 [] (.array 64 139)) :: (up 4 ((.ptr 4 [] (.array 8 139)) :: (.d (.int .i64) (.int .i64)) :: (up 202 []))))))
def qs21 : List PO := [q2_, q1_, q0_, q0_, q1_]
noncomputable def t3 (M : Nat) : List Ent := ⟨44, 11, 0, 21, sumS [2, 3, 4, 5, 6, 7, 12, 13] ps21 qs21 [] of21 (st21 M) ex21 M⟩ :: t2 M
theorem t3_ok (M : Nat) : AllOk (e M) (tblOf (t3 M)) := AllOk.addS (n0 := 5) (lv := lv21) (t2_ok M) (by kernel_rfl) rfl (by intro ls s h; unfold of21 at h; (repeat' split at h) <;> simp at h; subst h; rfl) (by intro s; kernel_rfl) (by intro s; kernel_rfl) (by intro s nx k; kernel_rfl)
structure S30 where
  (d44 : D) (i45 i46 : Int) (d47 d48 d49 d50 d51 : D)
inductive X30 where
  | e0 (d44 : D) (i45 i46 : Int) (d47 d48 d49 d50 d51 : D)
def st30 (M : Nat) : S30 → (S30 → Option D) → (X30 → Option D) → Option D
  | ⟨d44, i45, i46, d47, d48, d49, d50, d51⟩, rec, K => (cond (ltI i46 8) (cond (inb i46 8) (cond (inb i46 8) (cond (inb i46 8) (rec ⟨d44, i45, (ad .i64 i46 1), d47, (D.agg (d48.parts.set i46.toNat (D.int .u32 (ad .u32 (d48.at i46.toNat).i (d51.at i46.toNat).i)))), d49, d50, d51⟩) none) none) none) (K (.e0 d44 i45 i46 d47 d48 d49 d50 d51)))
def lv30 : S30 → List Leaf
  | ⟨d44, i45, i46, d47, d48, d49, d50, d51⟩ => [.d d44, .i i45, .i i46, .d d47, .d d48, .d d49, .d d50, .d d51]
def of30 : List Leaf → Option S30
  | [.d d44, .i i45, .i i46, .d d47, .d d48, .d d49, .d d50, .d d51] => some ⟨d44, i45, i46, d47, d48, d49, d50, d51⟩
  | _ => none
def ex30 (k : Kont) : X30 → Option D
  | .e0 d44 i45 i46 d47 d48 d49 d50 d51 => k (.exit 8) ((us 2 ((.ptr 0 [] (.array 32 5)) :: (.ptr 1 [] (.array 8 139)) :: (.ptr 2 [] (.array 64 139)) :: (vk .str d44) :: (vi i45) :: (us 5 ((.ptr 4 [] (.array 8 139)) :: (us 6 ((vi i46) :: (us 161 ((vi i46) :: (vb (ltI i46 8)) :: (us 33 [])))))))))) [(.var (.array 32 5) (vk (.array 32 5) d47)), (.var (.array 8 139) (vk (.array 8 139) d48)), (.var (.array 64 139) (vk (.array 64 139) d49)), (.var (.array 64 139) (vk (.array 64 139) d50)), (.var (.array 8 139) (vk (.array 8 139) d51))]
def ps30 : List PV := ((up 2 ((.ptr 0 [] (.array 32 5)) :: (.ptr 1 [] (.array 8 139)) :: (.ptr 2 [] (.array 64 139)) :: (.d .str .x) :: (.d (.int .i64) (.int .i64)) :: (up 5 ((.ptr 4 [] (.array 8 139)) :: (up 6 ((.d (.int .i64) (.int .i64)) :: (up 196 []))))))))
def qs30 : List PO := [q2_, q1_, q0_, q0_, q1_]
noncomputable def t4 (M : Nat) : List Ent := ⟨44, 11, 0, 30, sumS [2, 3, 4, 5, 6, 12, 19] ps30 qs30 [] of30 (st30 M) ex30 M⟩ :: t3 M
theorem t4_ok (M : Nat) : AllOk (e M) (tblOf (t4 M)) := AllOk.addS (n0 := 5) (lv := lv30) (t3_ok M) (by kernel_rfl) rfl (by intro ls s h; unfold of30 at h; (repeat' split at h) <;> simp at h; subst h; rfl) (by intro s; kernel_rfl) (by intro s; kernel_rfl) (by intro s nx k; kernel_rfl)
structure S5 where
  (d4 : D) (i5 : Int) (d6 d7 d8 : D)
inductive X5 where
  | e0 (d4 : D) (i5 : Int) (d6 d7 d8 : D)
def st5 (M : Nat) : S5 → (S5 → Option D) → (X5 → Option D) → Option D
  | ⟨d4, i5, d6, d7, d8⟩, rec, K => (cond (ltI i5 (nI d4.s.size)) (goS (st9 M) M ⟨d4, i5, 0, d6, d7, d8, (da (rp 64 (D.int .u32 0)))⟩ fun x => match x with | .e0 d9 i10 i11 d12 d13 d14 d15 => (goS (st21 M) M ⟨d9, i10, 0, d12, d13, d14, d15, d13⟩ fun x => match x with | .e0 d30 i31 i32 d33 d34 d35 d36 d37 => (goS (st30 M) M ⟨d30, i31, 0, d33, d34, d35, d36, d37⟩ fun x => match x with | .e0 d44 i45 i46 d47 d48 d49 d50 d51 => (rec ⟨d44, (ad .i64 i45 64), d47, d48, d49⟩)))) (K (.e0 d4 i5 d6 d7 d8)))
def lv5 : S5 → List Leaf
  | ⟨d4, i5, d6, d7, d8⟩ => [.d d4, .i i5, .d d6, .d d7, .d d8]
def of5 : List Leaf → Option S5
  | [.d d4, .i i5, .d d6, .d d7, .d d8] => some ⟨d4, i5, d6, d7, d8⟩
  | _ => none
def ex5 (k : Kont) : X5 → Option D
  | .e0 d4 i5 d6 d7 d8 => k (.exit 0) ((us 2 ((.ptr 0 [] (.array 32 5)) :: (.ptr 1 [] (.array 8 139)) :: (.ptr 2 [] (.array 64 139)) :: (vk .str d4) :: (vi i5) :: (us 21 ((vi i5) :: (vk .str d4) :: (vi (nI d4.s.size)) :: (vb (ltI i5 (nI d4.s.size))) :: (us 184 [])))))) [(.var (.array 32 5) (vk (.array 32 5) d6)), (.var (.array 8 139) (vk (.array 8 139) d7)), (.var (.array 64 139) (vk (.array 64 139) d8))]
def ps5 : List PV := ((up 2 ((.ptr 0 [] (.array 32 5)) :: (.ptr 1 [] (.array 8 139)) :: (.ptr 2 [] (.array 64 139)) :: (.d .str .x) :: (.d (.int .i64) (.int .i64)) :: (up 209 []))))
def qs5 : List PO := [q2_, q1_, q0_]
noncomputable def t5 (M : Nat) : List Ent := ⟨44, 11, 0, 5, sumS [2, 3, 4, 5, 6] ps5 qs5 [] of5 (st5 M) ex5 M⟩ :: t4 M
theorem t5_ok (M : Nat) : AllOk (e M) (tblOf (t5 M)) := AllOk.addS (n0 := 3) (lv := lv5) (t4_ok M) (by kernel_rfl) rfl (by intro ls s h; unfold of5 at h; (repeat' split at h) <;> simp at h; subst h; rfl) (by intro s; kernel_rfl) (by intro s; kernel_rfl) (by intro s nx k; kernel_rfl)
structure S39 where
  (i57 : Int) (d58 : D) (i59 : Int) (d60 d61 d62 d63 : D)
inductive X39 where
  | e0 (i57 : Int) (d58 : D) (i59 : Int) (d60 d61 d62 d63 : D)
def st39 (M : Nat) : S39 → (S39 → Option D) → (X39 → Option D) → Option D
  | ⟨i57, d58, i59, d60, d61, d62, d63⟩, rec, K => (cond (ltI i59 3) (rec ⟨i57, (D.int .u32 (quoI .u32 d58.i 256)), (ad .i64 i59 1), d60, d61, d62, d63⟩) (K (.e0 i57 d58 i59 d60 d61 d62 d63)))
def lv39 : S39 → List Leaf
  | ⟨i57, d58, i59, d60, d61, d62, d63⟩ => [.i i57, .d d58, .i i59, .d d60, .d d61, .d d62, .d d63]
def of39 : List Leaf → Option S39
  | [.i i57, .d d58, .i i59, .d d60, .d d61, .d d62, .d d63] => some ⟨i57, d58, i59, d60, d61, d62, d63⟩
  | _ => none
def ex39 (k : Kont) : X39 → Option D
  | .e0 i57 d58 i59 d60 d61 d62 d63 => k (.exit 12) ((us 2 ((.ptr 0 [] (.array 32 5)) :: (.ptr 1 [] (.array 8 139)) :: (us 16 ((.ptr 3 [] (.array 32 5)) :: (vi i57) :: (vk (.int .u32) d58) :: (vi i59) :: (us 180 ((vi i59) :: (vb (ltI i59 3)) :: (us 10 [])))))))) [(.var (.array 32 5) (vk (.array 32 5) d60)), (.var (.array 8 139) (vk (.array 8 139) d61)), (.var (.array 64 139) (vk (.array 64 139) d62)), (.var (.array 32 5) (vk (.array 32 5) d63))]
def ps39 : List PV := ((up 2 ((.ptr 0 [] (.array 32 5)) :: (.ptr 1 [] (.array 8 139)) :: (up 16 ((.ptr 3 [] (.array 32 5)) :: (.d (.int .i64) (.int .i64)) :: (.d (.int .u32) .x) :: (.d (.int .i64) (.int .i64)) :: (up 192 []))))))
def qs39 : List PO := [q2_, q1_, q0_, q2_]
noncomputable def t6 (M : Nat) : List Ent := ⟨44, 11, 0, 39, sumS [2, 3, 20, 21, 22, 23] ps39 qs39 [] of39 (st39 M) ex39 M⟩ :: t5 M
theorem t6_ok (M : Nat) : AllOk (e M) (tblOf (t6 M)) := AllOk.addS (n0 := 4) (lv := lv39) (t5_ok M) (by kernel_rfl) rfl (by intro ls s h; unfold of39 at h; (repeat' split at h) <;> simp at h; subst h; rfl) (by intro s; kernel_rfl) (by intro s; kernel_rfl) (by intro s nx k; kernel_rfl)
structure S35 where
  (i52 : Int) (d53 d54 d55 d56 : D)
inductive X35 where
  | e0 (i52 : Int) (d53 d54 d55 d56 : D)
def st35 (M : Nat) : S35 → (S35 → Option D) → (X35 → Option D) → Option D
  | ⟨i52, d53, d54, d55, d56⟩, rec, K => (cond (ltI i52 32) (cond (inb (quoI .i64 i52 4) 8) (goS (st39 M) M ⟨i52, (d54.at (quoI .i64 i52 4).toNat), (remI i52 4), d53, d54, d55, d56⟩ fun x => match x with | .e0 i57 d58 i59 d60 d61 d62 d63 => (cond (inb i57 32) (rec ⟨(ad .i64 i57 1), d60, d61, d62, (D.agg (d63.parts.set i57.toNat (D.int .u8 (cv .u8 (remI d58.i 256)))))⟩) none)) none) (K (.e0 i52 d53 d54 d55 d56)))
def lv35 : S35 → List Leaf
  | ⟨i52, d53, d54, d55, d56⟩ => [.i i52, .d d53, .d d54, .d d55, .d d56]
def of35 : List Leaf → Option S35
  | [.i i52, .d d53, .d d54, .d d55, .d d56] => some ⟨i52, d53, d54, d55, d56⟩
  | _ => none
def ex35 (k : Kont) : X35 → Option D
  | .e0 i52 d53 d54 d55 d56 => k (.exit 10) ((us 2 ((.ptr 0 [] (.array 32 5)) :: (.ptr 1 [] (.array 8 139)) :: (us 16 ((.ptr 3 [] (.array 32 5)) :: (vi i52) :: (us 172 ((vi i52) :: (vb (ltI i52 32)) :: (us 20 [])))))))) [(.var (.array 32 5) (vk (.array 32 5) d53)), (.var (.array 8 139) (vk (.array 8 139) d54)), (.var (.array 64 139) (vk (.array 64 139) d55)), (.var (.array 32 5) (vk (.array 32 5) d56))]
def ps35 : List PV := ((up 2 ((.ptr 0 [] (.array 32 5)) :: (.ptr 1 [] (.array 8 139)) :: (up 16 ((.ptr 3 [] (.array 32 5)) :: (.d (.int .i64) (.int .i64)) :: (up 194 []))))))
def qs35 : List PO := [q2_, q1_, q0_, q2_]
noncomputable def t (M : Nat) : List Ent := ⟨44, 11, 0, 35, sumS [2, 3, 20, 21] ps35 qs35 [] of35 (st35 M) ex35 M⟩ :: t6 M
theorem t_ok (M : Nat) : AllOk (e M) (tblOf (t M)) := AllOk.addS (n0 := 4) (lv := lv35) (t6_ok M) (by kernel_rfl) rfl (by intro ls s h; unfold of35 at h; (repeat' split at h) <;> simp at h; subst h; rfl) (by intro s; kernel_rfl) (by intro s; kernel_rfl) (by intro s nx k; kernel_rfl)
def s (M : Nat) (p0 : ByteArray) : Option D :=
  (bd (F96.s FUEL) fun r1 => (bd (F97.s FUEL) fun r2 => (bd (F98.s FUEL p0) fun r3 => (goS (st5 M) M ⟨r3, 0, (da (rp 32 (D.int .u8 0))), r1, r2⟩ fun x => match x with | .e0 d4 i5 d6 d7 d8 => (goS (st35 M) M ⟨0, d6, d7, d8, (da (rp 32 (D.int .u8 0)))⟩ fun x => match x with | .e0 i52 d53 d54 d55 d56 => (some d56))))))
theorem run (M : Nat) (p0 : ByteArray) : callS (e M) (tblOf (t M)) 12 (.fn 44) [.d .str (dS p0)] [] (fun v H => finish ty [56] v H) = s M p0 := by kernel_rfl
def c : Con := { run := fun ds => match ds with | [p0] => s FUEL p0.s | _ => none, plain := true }
theorem ok : ConOk (44, c) := mkC Tryz.f44 [.str] [56] (by kernel_rfl) (by kernel_rfl) (by kernel_rfl) (by kernel_rfl) (allCons F96.ok (allCons F97.ok (allCons F98.ok (allCons F99.ok (allCons F100.ok allNil))))) allNil (t_ok FUEL) fun a => run FUEL a.1
end F44
namespace F93
def cons : List (Nat × Con) := []
def exts : List (Nat × Ext) := []
def h : List (Nat × Nat × Hint) := []
noncomputable def e (M : Nat) : Env := env cons exts h M
def s (M : Nat) (p0 : D) (p1 : Int) : Option D :=
  (cond (!(p0.at 3).b) (some (D.tup [p0, (di 6)])) (cond (ltI p1 0) (some (D.tup [p0, (di 1)])) (cond (gtI p1 1099511627776) (some (D.tup [p0, (di 1)])) (cond (ltI p1 (p0.at 4).i) (some (D.tup [p0, (di 7)])) (some (D.tup [(D.agg (p0.parts.set 4 (di p1))), (di 0)]))))))
theorem run (M : Nat) (p0 : D) (p1 : Int) : callS (e M) (tblOf []) 12 (.fn 93) [.d (.struct [3, 9, 9, 4, 3, 37]) p0, .d (.int .i64) (di p1)] [] (fun v H => finish ty [39, 36] v H) = s M p0 p1 := by kernel_rfl
def c : Con := { run := fun ds => match ds with | [p0, p1] => s FUEL p0 p1.i | _ => none }
theorem ok : ConOk (93, c) := mkC Tryz.f93 [(.struct [3, 9, 9, 4, 3, 37]), (.int .i64)] [39, 36] (by kernel_rfl) (by kernel_rfl) (by kernel_rfl) (by kernel_rfl) allNil allNil AllOk.nil fun a => run FUEL a.1 a.2.1
end F93
namespace F135
def cons : List (Nat × Con) := []
def exts : List (Nat × Ext) := []
def h : List (Nat × Nat × Hint) := [(135, 2, { live := [0, 1, 5] })]
noncomputable def e (M : Nat) : Env := env cons exts h M
structure S2 where
  (d1 : D) (s2 : ByteArray) (i3 : Int)
inductive X2 where
  | e0 (d1 : D) (s2 : ByteArray) (i3 : Int)
  | e1 (d1 : D) (s2 : ByteArray) (i3 : Int)
def st2 (M : Nat) : S2 → (S2 → Option D) → (X2 → Option D) → Option D
  | ⟨d1, s2, i3⟩, rec, K => (cond (ltI i3 (nI d1.elems.length)) (cond (inb i3 d1.elems.length) (cond (eqS (ix d1.elems i3.toNat).s s2) (K (.e0 d1 s2 i3)) (rec ⟨d1, s2, (ad .i64 i3 1)⟩)) none) (K (.e1 d1 s2 i3)))
def lv2 : S2 → List Leaf
  | ⟨d1, s2, i3⟩ => [.d d1, .s s2, .i i3]
def of2 : List Leaf → Option S2
  | [.d d1, .s s2, .i i3] => some ⟨d1, s2, i3⟩
  | _ => none
def ex2 (k : Kont) : X2 → Option D
  | .e0 d1 s2 i3 => k .ret ((vk (.slice 9) d1) :: (vS s2) :: (us 2 ((vi i3) :: (vi i3) :: (vi i3) :: (vk (.slice 9) d1) :: (vi (nI d1.elems.length)) :: (vb (ltI i3 (nI d1.elems.length))) :: (us 2 ((vk (.slice 9) d1) :: (vi i3) :: (.cptr .str (ix d1.elems i3.toNat)) :: (vk .str (ix d1.elems i3.toNat)) :: (vS s2) :: (vb (eqS (ix d1.elems i3.toNat).s s2)) :: (vi i3) :: []))))) []
  | .e1 d1 s2 i3 => k (.exit 0) ((vk (.slice 9) d1) :: (vS s2) :: (us 3 ((vi i3) :: (vi i3) :: (vk (.slice 9) d1) :: (vi (nI d1.elems.length)) :: (vb (ltI i3 (nI d1.elems.length))) :: (us 9 [])))) []
def ps2 : List PV := ((.d (.slice 9) .x) :: (.d .str .str) :: (up 3 ((.d (.int .i64) (.int .i64)) :: (up 13 []))))
def qs2 : List PO := []
noncomputable def t (M : Nat) : List Ent := ⟨135, 11, 0, 2, sumS [0, 1, 5] ps2 qs2 [] of2 (st2 M) ex2 M⟩ :: []
theorem t_ok (M : Nat) : AllOk (e M) (tblOf (t M)) := AllOk.addS (n0 := 0) (lv := lv2) AllOk.nil (by kernel_rfl) rfl (by intro ls s h; unfold of2 at h; (repeat' split at h) <;> simp at h; subst h; rfl) (by intro s; kernel_rfl) (by intro s; kernel_rfl) (by intro s nx k; kernel_rfl)
def s (M : Nat) (p0 : D) (p1 : ByteArray) : Option D :=
  (goS (st2 M) M ⟨p0, p1, 0⟩ fun x => match x with | .e0 d1 s2 i3 => (some (di i3)) | .e1 d1 s2 i3 => (some (di (-1))))
theorem run (M : Nat) (p0 : D) (p1 : ByteArray) : callS (e M) (tblOf (t M)) 12 (.fn 135) [.d (.slice 9) p0, .d .str (dS p1)] [] (fun v H => finish ty [3] v H) = s M p0 p1 := by kernel_rfl
def c : Con := { run := fun ds => match ds with | [p0, p1] => s FUEL p0 p1.s | _ => none, plain := true }
theorem ok : ConOk (135, c) := mkC Tryz.f135 [(.slice 9), .str] [3] (by kernel_rfl) (by kernel_rfl) (by kernel_rfl) (by kernel_rfl) allNil allNil (t_ok FUEL) fun a => run FUEL a.1 a.2.1
end F135
namespace F94
def k0_ : K := (.struct [3, 9, 9, 4, 3, 37])
def cons : List (Nat × Con) := [(51, F51.c), (104, F104.c), (135, F135.c)]
def exts : List (Nat × Ext) := []
def h : List (Nat × Nat × Hint) := [(94, 11, { live := [1, 2, 4, 7] })]
noncomputable def e (M : Nat) : Env := env cons exts h M
structure S11 where
  (s3 : ByteArray) (i4 : Int) (d5 : D) (i6 : Int) (s7 s8 : ByteArray) (b9 : Bool) (i10 : Int) (b11 : Bool) (l12 : List D)
inductive X11 where
  | e0 (s3 : ByteArray) (i4 : Int) (d5 : D) (i6 : Int) (s7 s8 : ByteArray) (b9 : Bool) (i10 : Int) (b11 : Bool) (l12 : List D) (r13 : D)
  | e1 (s3 : ByteArray) (i4 : Int) (d5 : D) (i6 : Int) (s7 s8 : ByteArray) (b9 : Bool) (i10 : Int) (b11 : Bool) (l12 : List D)
def st11 (M : Nat) : S11 → (S11 → Option D) → (X11 → Option D) → Option D
  | ⟨s3, i4, d5, i6, s7, s8, b9, i10, b11, l12⟩, rec, K => (cond (ltI i4 (nI (d5.at 5).elems.length)) (cond (inb i4 (d5.at 5).elems.length) (bd (F104.s FUEL (ix (d5.at 5).elems i4.toNat).s s3) fun r13 => (cond (!r13.b) (K (.e0 s3 i4 d5 i6 s7 s8 b9 i10 b11 l12 r13)) (rec ⟨s3, (ad .i64 i4 1), d5, i6, s7, s8, b9, i10, b11, l12⟩))) none) (K (.e1 s3 i4 d5 i6 s7 s8 b9 i10 b11 l12)))
def lv11 : S11 → List Leaf
  | ⟨s3, i4, d5, i6, s7, s8, b9, i10, b11, l12⟩ => [.s s3, .i i4, .d d5, .i i6, .s s7, .s s8, .b b9, .i i10, .b b11, .l l12]
def of11 : List Leaf → Option S11
  | [.s s3, .i i4, .d d5, .i i6, .s s7, .s s8, .b b9, .i i10, .b b11, .l l12] => some ⟨s3, i4, d5, i6, s7, s8, b9, i10, b11, l12⟩
  | _ => none
def ex11 (k : Kont) : X11 → Option D
  | .e0 s3 i4 d5 i6 s7 s8 b9 i10 b11 l12 r13 => k (.exit 0) ((us 1 ((vS s3) :: (.ptr 0 [] k0_) :: (us 1 ((.ptr 1 [] k0_) :: (us 2 ((vi i4) :: (us 21 ((vi i4) :: (.ptr 0 [5] (.slice 9)) :: (vk (.slice 9) (d5.at 5)) :: (vi (nI (d5.at 5).elems.length)) :: (vb (ltI i4 (nI (d5.at 5).elems.length))) :: (.ptr 0 [5] (.slice 9)) :: (vk (.slice 9) (d5.at 5)) :: (vi i4) :: (.cptr .str (ix (d5.at 5).elems i4.toNat)) :: (vk .str (ix (d5.at 5).elems i4.toNat)) :: (vS s3) :: (vk .bool r13) :: (vb (!r13.b)) :: (us 21 [])))))))))) [(.var k0_ (vk k0_ d5)), (.var k0_ (vk k0_ (da [(di i6), (dS s7), (dS s8), (db b9), (di i10), (dl b11 l12)])))]
  | .e1 s3 i4 d5 i6 s7 s8 b9 i10 b11 l12 => k (.exit 0) ((us 1 ((vS s3) :: (.ptr 0 [] k0_) :: (us 1 ((.ptr 1 [] k0_) :: (us 2 ((vi i4) :: (us 21 ((vi i4) :: (.ptr 0 [5] (.slice 9)) :: (vk (.slice 9) (d5.at 5)) :: (vi (nI (d5.at 5).elems.length)) :: (vb (ltI i4 (nI (d5.at 5).elems.length))) :: (us 29 [])))))))))) [(.var k0_ (vk k0_ d5)), (.var k0_ (vk k0_ (da [(di i6), (dS s7), (dS s8), (db b9), (di i10), (dl b11 l12)])))]
def ps11 : List PV := ((up 1 ((.d .str .str) :: (.ptr 0 [] k0_) :: (up 1 ((.ptr 1 [] k0_) :: (up 2 ((.d (.int .i64) (.int .i64)) :: (up 55 []))))))))
def qs11 : List PO := [(.var k0_ (.d k0_ .x)), (.var k0_ (.d k0_ (.agg [(.int .i64), .str, .str, .bool, (.int .i64), .slice])))]
noncomputable def t (M : Nat) : List Ent := ⟨94, 11, 0, 11, sumS [1, 2, 4, 7] ps11 qs11 [] of11 (st11 M) ex11 M⟩ :: []
theorem t_ok (M : Nat) : AllOk (e M) (tblOf (t M)) := AllOk.addS (n0 := 2) (lv := lv11) AllOk.nil (by kernel_rfl) rfl (by intro ls s h; unfold of11 at h; (repeat' split at h) <;> simp at h; subst h; rfl) (by intro s; kernel_rfl) (by intro s; kernel_rfl) (by intro s nx k; kernel_rfl)
def s (M : Nat) (p0 : D) (p1 : ByteArray) : Option D :=
  (bd (F51.s FUEL p1) fun r1 => (cond (!(p0.at 3).b) (some (D.tup [p0, (di 6)])) (cond (!r1.b) (some (D.tup [p0, (di 2)])) (bd (F135.s FUEL (p0.at 5) p1) fun r2 => (cond (geI r2.i 0) (some (D.tup [p0, (di 4)])) (cond (geI (nI (p0.at 5).elems.length) 4) (some (D.tup [p0, (di 10)])) (goS (st11 M) M ⟨p1, 0, p0, 0, (bs []), (bs []), false, 0, false, []⟩ fun x => match x with | .e0 s3 i4 d5 i6 s7 s8 b9 i10 b11 l12 r13 => (cond (true && (leI 0 i4) && (leI i4 (nI (d5.at 5).elems.length)) && (leI (nI (d5.at 5).elems.length) (nI (d5.at 5).elems.length))) (cond (mx (((d5.at 5).elems.drop 0).take (i4.toNat - 0)).length) (cond (mx ((((d5.at 5).elems.drop 0).take (i4.toNat - 0)).length + 1)) (cond ((leI 0 i4) && (leI i4 (nI (d5.at 5).elems.length)) && (leI (nI (d5.at 5).elems.length) (nI (d5.at 5).elems.length)) && (leI (nI (d5.at 5).elems.length) (nI (d5.at 5).elems.length))) (cond (mx (((((d5.at 5).elems.drop 0).take (i4.toNat - 0)).length + 1) + (((d5.at 5).elems.drop i4.toNat).take ((d5.at 5).elems.length - i4.toNat)).length)) (some (D.tup [(da [(d5.at 0), (d5.at 1), (d5.at 2), (d5.at 3), (d5.at 4), (dl (((!(((d5.at 5).elems.drop 0).take (i4.toNat - 0)).isEmpty) || true) || (!(((d5.at 5).elems.drop i4.toNat).take ((d5.at 5).elems.length - i4.toNat)).isEmpty)) (((ap (((ap (((((d5.at 5).elems.drop 0).take (i4.toNat - 0)).drop 0).take (((d5.at 5).elems.drop 0).take (i4.toNat - 0)).length) [(dS s3)]).drop 0).take ((((d5.at 5).elems.drop 0).take (i4.toNat - 0)).length + 1)) (((d5.at 5).elems.drop i4.toNat).take ((d5.at 5).elems.length - i4.toNat))).drop 0).take (((((d5.at 5).elems.drop 0).take (i4.toNat - 0)).length + 1) + (((d5.at 5).elems.drop i4.toNat).take ((d5.at 5).elems.length - i4.toNat)).length)))]), (di 0)])) none) none) none) none) none) | .e1 s3 i4 d5 i6 s7 s8 b9 i10 b11 l12 => (cond (true && (leI 0 i4) && (leI i4 (nI (d5.at 5).elems.length)) && (leI (nI (d5.at 5).elems.length) (nI (d5.at 5).elems.length))) (cond (mx (((d5.at 5).elems.drop 0).take (i4.toNat - 0)).length) (cond (mx ((((d5.at 5).elems.drop 0).take (i4.toNat - 0)).length + 1)) (cond ((leI 0 i4) && (leI i4 (nI (d5.at 5).elems.length)) && (leI (nI (d5.at 5).elems.length) (nI (d5.at 5).elems.length)) && (leI (nI (d5.at 5).elems.length) (nI (d5.at 5).elems.length))) (cond (mx (((((d5.at 5).elems.drop 0).take (i4.toNat - 0)).length + 1) + (((d5.at 5).elems.drop i4.toNat).take ((d5.at 5).elems.length - i4.toNat)).length)) (some (D.tup [(da [(d5.at 0), (d5.at 1), (d5.at 2), (d5.at 3), (d5.at 4), (dl (((!(((d5.at 5).elems.drop 0).take (i4.toNat - 0)).isEmpty) || true) || (!(((d5.at 5).elems.drop i4.toNat).take ((d5.at 5).elems.length - i4.toNat)).isEmpty)) (((ap (((ap (((((d5.at 5).elems.drop 0).take (i4.toNat - 0)).drop 0).take (((d5.at 5).elems.drop 0).take (i4.toNat - 0)).length) [(dS s3)]).drop 0).take ((((d5.at 5).elems.drop 0).take (i4.toNat - 0)).length + 1)) (((d5.at 5).elems.drop i4.toNat).take ((d5.at 5).elems.length - i4.toNat))).drop 0).take (((((d5.at 5).elems.drop 0).take (i4.toNat - 0)).length + 1) + (((d5.at 5).elems.drop i4.toNat).take ((d5.at 5).elems.length - i4.toNat)).length)))]), (di 0)])) none) none) none) none) none))))))))
theorem run (M : Nat) (p0 : D) (p1 : ByteArray) : callS (e M) (tblOf (t M)) 12 (.fn 94) [.d (.struct [3, 9, 9, 4, 3, 37]) p0, .d .str (dS p1)] [] (fun v H => finish ty [39, 36] v H) = s M p0 p1 := by kernel_rfl
def c : Con := { run := fun ds => match ds with | [p0, p1] => s FUEL p0 p1.s | _ => none }
theorem ok : ConOk (94, c) := mkC Tryz.f94 [(.struct [3, 9, 9, 4, 3, 37]), .str] [39, 36] (by kernel_rfl) (by kernel_rfl) (by kernel_rfl) (by kernel_rfl) (allCons F51.ok (allCons F104.ok (allCons F135.ok allNil))) allNil (t_ok FUEL) fun a => run FUEL a.1 a.2.1
end F94
namespace F95
def cons : List (Nat × Con) := [(135, F135.c)]
def exts : List (Nat × Ext) := []
def h : List (Nat × Nat × Hint) := []
noncomputable def e (M : Nat) : Env := env cons exts h M
def s (M : Nat) (p0 : D) (p1 : ByteArray) : Option D :=
  (bd (F135.s FUEL (p0.at 5) p1) fun r1 => (cond (ltI r1.i 0) (some (D.tup [p0, (di 3)])) (cond (true && (leI 0 r1.i) && (leI r1.i (nI (p0.at 5).elems.length)) && (leI (nI (p0.at 5).elems.length) (nI (p0.at 5).elems.length))) (cond (mx (((p0.at 5).elems.drop 0).take ((r1.i).toNat - 0)).length) (cond ((leI 0 (ad .i64 r1.i 1)) && (leI (ad .i64 r1.i 1) (nI (p0.at 5).elems.length)) && (leI (nI (p0.at 5).elems.length) (nI (p0.at 5).elems.length)) && (leI (nI (p0.at 5).elems.length) (nI (p0.at 5).elems.length))) (cond (mx ((((p0.at 5).elems.drop 0).take ((r1.i).toNat - 0)).length + (((p0.at 5).elems.drop (ad .i64 r1.i 1).toNat).take ((p0.at 5).elems.length - (ad .i64 r1.i 1).toNat)).length)) (some (D.tup [(da [(p0.at 0), (p0.at 1), (p0.at 2), (p0.at 3), (p0.at 4), (dl ((!(((p0.at 5).elems.drop 0).take ((r1.i).toNat - 0)).isEmpty) || (!(((p0.at 5).elems.drop (ad .i64 r1.i 1).toNat).take ((p0.at 5).elems.length - (ad .i64 r1.i 1).toNat)).isEmpty)) (((ap (((((p0.at 5).elems.drop 0).take ((r1.i).toNat - 0)).drop 0).take (((p0.at 5).elems.drop 0).take ((r1.i).toNat - 0)).length) (((p0.at 5).elems.drop (ad .i64 r1.i 1).toNat).take ((p0.at 5).elems.length - (ad .i64 r1.i 1).toNat))).drop 0).take ((((p0.at 5).elems.drop 0).take ((r1.i).toNat - 0)).length + (((p0.at 5).elems.drop (ad .i64 r1.i 1).toNat).take ((p0.at 5).elems.length - (ad .i64 r1.i 1).toNat)).length)))]), (di 0)])) none) none) none) none)))
theorem run (M : Nat) (p0 : D) (p1 : ByteArray) : callS (e M) (tblOf []) 12 (.fn 95) [.d (.struct [3, 9, 9, 4, 3, 37]) p0, .d .str (dS p1)] [] (fun v H => finish ty [39, 36] v H) = s M p0 p1 := by kernel_rfl
def c : Con := { run := fun ds => match ds with | [p0, p1] => s FUEL p0 p1.s | _ => none }
theorem ok : ConOk (95, c) := mkC Tryz.f95 [(.struct [3, 9, 9, 4, 3, 37]), .str] [39, 36] (by kernel_rfl) (by kernel_rfl) (by kernel_rfl) (by kernel_rfl) (allCons F135.ok allNil) allNil AllOk.nil fun a => run FUEL a.1 a.2.1
end F95
namespace F57
def cons : List (Nat × Con) := [(44, F44.c), (54, F54.c), (92, F92.c), (93, F93.c), (94, F94.c), (95, F95.c), (105, F105.c)]
def exts : List (Nat × Ext) := []
def h : List (Nat × Nat × Hint) := []
noncomputable def e (M : Nat) : Env := env cons exts h M
def s (M : Nat) (p0 : D) (p1 : D) (p2 : Int) : Option D :=
  (cond (eqI (p1.at 0).i 0) (some (D.tup [p0, (da [(di 0), (di 0), (dS (bs [])), (di 0), (di 0), (da (rp 32 (D.int .u8 0)))]), (di 4)])) (cond (eqI (p1.at 0).i 1) (bd (F105.s FUEL p0 (p1.at 2).s) fun r1 => (cond (neI (r1.at 1).i 0) (some (D.tup [p0, (da [(di 0), (di 0), (dS (bs [])), (di 0), (di 0), (da (rp 32 (D.int .u8 0)))]), (r1.at 1)])) (some (D.tup [(r1.at 0), (da [(p1.at 0), (p0.at 0), (dS (bs [])), (di 0), (di (nI (p1.at 2).s.size)), (da (rp 32 (D.int .u8 0)))]), (di 0)])))) (cond (eqI (p1.at 0).i 2) (bd (F92.s FUEL p0 (p1.at 3).i) fun r2 => (bd (F44.s FUEL (p0.at 2).s) fun r3 => (cond (neI (r2.at 1).i 0) (some (D.tup [p0, (da [(di 0), (di 0), (dS (bs [])), (di 0), (di 0), (da (rp 32 (D.int .u8 0)))]), (r2.at 1)])) (some (D.tup [(r2.at 0), (da [(p1.at 0), (p0.at 0), (dS (bs [])), (p1.at 3), (di (nI (p0.at 2).s.size)), r3]), (di 0)]))))) (cond (eqI (p1.at 0).i 3) (bd (F93.s FUEL p0 (p1.at 3).i) fun r4 => (cond (neI (r4.at 1).i 0) (some (D.tup [p0, (da [(di 0), (di 0), (dS (bs [])), (di 0), (di 0), (da (rp 32 (D.int .u8 0)))]), (r4.at 1)])) (some (D.tup [(r4.at 0), (da [(p1.at 0), (p0.at 0), (dS (bs [])), (p1.at 3), (di 0), (da (rp 32 (D.int .u8 0)))]), (di 0)])))) (cond (eqI (p1.at 0).i 4) (bd (F94.s FUEL p0 (p1.at 2).s) fun r5 => (cond (neI (r5.at 1).i 0) (some (D.tup [p0, (da [(di 0), (di 0), (dS (bs [])), (di 0), (di 0), (da (rp 32 (D.int .u8 0)))]), (r5.at 1)])) (some (D.tup [(r5.at 0), (da [(p1.at 0), (p0.at 0), (p1.at 2), (di 0), (di 0), (da (rp 32 (D.int .u8 0)))]), (di 0)])))) (cond (eqI (p1.at 0).i 5) (bd (F95.s FUEL p0 (p1.at 2).s) fun r6 => (cond (neI (r6.at 1).i 0) (some (D.tup [p0, (da [(di 0), (di 0), (dS (bs [])), (di 0), (di 0), (da (rp 32 (D.int .u8 0)))]), (r6.at 1)])) (some (D.tup [(r6.at 0), (da [(p1.at 0), (p0.at 0), (p1.at 2), (di 0), (di 0), (da (rp 32 (D.int .u8 0)))]), (di 0)])))) (cond (eqI (p1.at 0).i 6) (bd (F54.s FUEL p0 p2) fun r7 => (cond (neI r7.i 0) (some (D.tup [p0, (da [(di 0), (di 0), (dS (bs [])), (di 0), (di 0), (da (rp 32 (D.int .u8 0)))]), r7])) (some (D.tup [(da [(di 0), (dS (bs [])), (dS (bs [])), (db false), (di 0), (dl false [])]), (da [(p1.at 0), (p0.at 0), (dS (bs [])), (di 0), (di 0), (da (rp 32 (D.int .u8 0)))]), (di 0)])))) (some (D.tup [p0, (da [(di 0), (di 0), (dS (bs [])), (di 0), (di 0), (da (rp 32 (D.int .u8 0)))]), (di 1)])))))))))
theorem run (M : Nat) (p0 : D) (p1 : D) (p2 : Int) : callS (e M) (tblOf []) 12 (.fn 57) [.d (.struct [3, 9, 9, 4, 3, 37]) p0, .d (.struct [50, 9, 9, 3, 3, 3]) p1, .d (.int .i64) (di p2)] [] (fun v H => finish ty [39, 58, 36] v H) = s M p0 p1 p2 := by kernel_rfl
def c : Con := { run := fun ds => match ds with | [p0, p1, p2] => s FUEL p0 p1 p2.i | _ => none }
theorem ok : ConOk (57, c) := mkC Tryz.f57 [(.struct [3, 9, 9, 4, 3, 37]), (.struct [50, 9, 9, 3, 3, 3]), (.int .i64)] [39, 58, 36] (by kernel_rfl) (by kernel_rfl) (by kernel_rfl) (by kernel_rfl) (allCons F44.ok (allCons F54.ok (allCons F92.ok (allCons F93.ok (allCons F94.ok (allCons F95.ok (allCons F105.ok allNil))))))) allNil AllOk.nil fun a => run FUEL a.1 a.2.1 a.2.2.1
end F57
namespace F58
def cons : List (Nat × Con) := []
def exts : List (Nat × Ext) := []
def h : List (Nat × Nat × Hint) := []
noncomputable def e (M : Nat) : Env := env cons exts h M
def s (M : Nat) (p0 : D) (p1 : Int) (p2 : D) (p3 : Bool) : Option D :=
  (cond (true && (leI 0 p1) && (leI p1 (nI (p0.at 0).elems.length)) && (leI (nI (p0.at 0).elems.length) (nI (p0.at 0).elems.length))) (cond (mx (((p0.at 0).elems.drop 0).take (p1.toNat - 0)).length) (cond (!p3) (cond (mx ((((p0.at 0).elems.drop 0).take (p1.toNat - 0)).length + 1)) (cond ((leI 0 (ad .i64 p1 1)) && (leI (ad .i64 p1 1) (nI (p0.at 0).elems.length)) && (leI (nI (p0.at 0).elems.length) (nI (p0.at 0).elems.length)) && (leI (nI (p0.at 0).elems.length) (nI (p0.at 0).elems.length))) (cond (mx (((((p0.at 0).elems.drop 0).take (p1.toNat - 0)).length + 1) + (((p0.at 0).elems.drop (ad .i64 p1 1).toNat).take ((p0.at 0).elems.length - (ad .i64 p1 1).toNat)).length)) (some (da [(dl (((!(((p0.at 0).elems.drop 0).take (p1.toNat - 0)).isEmpty) || true) || (!(((p0.at 0).elems.drop (ad .i64 p1 1).toNat).take ((p0.at 0).elems.length - (ad .i64 p1 1).toNat)).isEmpty)) (((ap (((ap (((((p0.at 0).elems.drop 0).take (p1.toNat - 0)).drop 0).take (((p0.at 0).elems.drop 0).take (p1.toNat - 0)).length) [p2]).drop 0).take ((((p0.at 0).elems.drop 0).take (p1.toNat - 0)).length + 1)) (((p0.at 0).elems.drop (ad .i64 p1 1).toNat).take ((p0.at 0).elems.length - (ad .i64 p1 1).toNat))).drop 0).take (((((p0.at 0).elems.drop 0).take (p1.toNat - 0)).length + 1) + (((p0.at 0).elems.drop (ad .i64 p1 1).toNat).take ((p0.at 0).elems.length - (ad .i64 p1 1).toNat)).length))), (p0.at 1), (p0.at 2)])) none) none) none) (cond ((leI 0 (ad .i64 p1 1)) && (leI (ad .i64 p1 1) (nI (p0.at 0).elems.length)) && (leI (nI (p0.at 0).elems.length) (nI (p0.at 0).elems.length)) && (leI (nI (p0.at 0).elems.length) (nI (p0.at 0).elems.length))) (cond (mx ((((p0.at 0).elems.drop 0).take (p1.toNat - 0)).length + (((p0.at 0).elems.drop (ad .i64 p1 1).toNat).take ((p0.at 0).elems.length - (ad .i64 p1 1).toNat)).length)) (some (da [(dl ((!(((p0.at 0).elems.drop 0).take (p1.toNat - 0)).isEmpty) || (!(((p0.at 0).elems.drop (ad .i64 p1 1).toNat).take ((p0.at 0).elems.length - (ad .i64 p1 1).toNat)).isEmpty)) (((ap (((((p0.at 0).elems.drop 0).take (p1.toNat - 0)).drop 0).take (((p0.at 0).elems.drop 0).take (p1.toNat - 0)).length) (((p0.at 0).elems.drop (ad .i64 p1 1).toNat).take ((p0.at 0).elems.length - (ad .i64 p1 1).toNat))).drop 0).take ((((p0.at 0).elems.drop 0).take (p1.toNat - 0)).length + (((p0.at 0).elems.drop (ad .i64 p1 1).toNat).take ((p0.at 0).elems.length - (ad .i64 p1 1).toNat)).length))), (p0.at 1), (p0.at 2)])) none) none)) none) none)
theorem run (M : Nat) (p0 : D) (p1 : Int) (p2 : D) (p3 : Bool) : callS (e M) (tblOf []) 12 (.fn 58) [.d (.struct [25, 3, 3]) p0, .d (.int .i64) (di p1), .d (.struct [3, 9, 9, 4, 3, 37]) p2, .d .bool (db p3)] [] (fun v H => finish ty [32] v H) = s M p0 p1 p2 p3 := by kernel_rfl
def c : Con := { run := fun ds => match ds with | [p0, p1, p2, p3] => s FUEL p0 p1.i p2 p3.b | _ => none }
theorem ok : ConOk (58, c) := mkC Tryz.f58 [(.struct [25, 3, 3]), (.int .i64), (.struct [3, 9, 9, 4, 3, 37]), .bool] [32] (by kernel_rfl) (by kernel_rfl) (by kernel_rfl) (by kernel_rfl) allNil allNil AllOk.nil fun a => run FUEL a.1 a.2.1 a.2.2.1 a.2.2.2.1
end F58
namespace F28
def k0_ : K := (.struct [25, 3, 3])
def k1_ : K := (.struct [36, 3, 9, 39, 37])
def k2_ : K := (.struct [50, 9, 9, 3, 3, 3])
def cons : List (Nat × Con) := [(50, F50.c), (51, F51.c), (52, F52.c), (53, F53.c), (54, F54.c), (55, F55.c), (56, F56.c), (57, F57.c), (58, F58.c)]
def exts : List (Nat × Ext) := []
def h : List (Nat × Nat × Hint) := [(28, 29, { live := [2, 4, 5, 13, 14, 15], rows := [(14, 58), (13, 39)] })]
noncomputable def e (M : Nat) : Env := env cons exts h M
structure S29 where
  (n5 n6 n7 n8 : Nat) (i9 : Int) (d10 d11 : D) (b12 : Bool) (l13 : List D) (i14 i15 i16 i17 : Int) (s18 : ByteArray) (i19 : Int) (s20 s21 : ByteArray) (b22 : Bool) (i23 : Int) (b24 : Bool) (l25 : List D) (b26 : Bool) (l27 : List D) (b28 : Bool) (l29 : List D) (b30 : Bool) (l31 : List D)
inductive X29 where
  | e0 (n5 n6 n7 n8 : Nat) (i9 : Int) (d10 d11 : D) (b12 : Bool) (l13 : List D) (i14 i15 i16 i17 : Int) (s18 : ByteArray) (i19 : Int) (s20 s21 : ByteArray) (b22 : Bool) (i23 : Int) (b24 : Bool) (l25 : List D) (b26 : Bool) (l27 : List D) (b28 : Bool) (l29 : List D) (b30 : Bool) (l31 : List D)
def st29 (M : Nat) : S29 → (S29 → Option D) → (X29 → Option D) → Option D
  | ⟨n5, n6, n7, n8, i9, d10, d11, b12, l13, i14, i15, i16, i17, s18, i19, s20, s21, b22, i23, b24, l25, b26, l27, b28, l29, b30, l31⟩, rec, K => (cond (ltI i9 (nI (d10.at 0).elems.length)) (cond (inb i9 (d10.at 0).elems.length) (bd (F54.s FUEL (ix (d10.at 0).elems i9.toNat) (d10.at 2).i) fun r32 => (cond (eqI r32.i 0) (cond (inb i9 (d10.at 0).elems.length) (cond (mx (n8 + 1)) (rec ⟨n5, n6, 0, (n8 + 1), (ad .i64 i9 1), d10, d11, b12, l13, i14, i15, i16, i17, s18, i19, s20, s21, b22, i23, b24, l25, b26, l27, (b28 || true), (ap ((l29.drop n7).take n8) [(da [(di 6), ((ix (d10.at 0).elems i9.toNat).at 0), (dS (bs [])), (di 0), (di 0), (da (rp 32 (D.int .u8 0)))])]), b30, l31⟩) none) none) (cond (inb i9 (d10.at 0).elems.length) (cond (mx (n6 + 1)) (rec ⟨0, (n6 + 1), n7, n8, (ad .i64 i9 1), d10, d11, b12, l13, i14, i15, i16, i17, s18, i19, s20, s21, b22, i23, b24, l25, b26, l27, b28, l29, (b30 || true), (ap ((l31.drop n5).take n6) [(ix (d10.at 0).elems i9.toNat)])⟩) none) none))) none) (K (.e0 n5 n6 n7 n8 i9 d10 d11 b12 l13 i14 i15 i16 i17 s18 i19 s20 s21 b22 i23 b24 l25 b26 l27 b28 l29 b30 l31)))
def lv29 : S29 → List Leaf
  | ⟨n5, n6, n7, n8, i9, d10, d11, b12, l13, i14, i15, i16, i17, s18, i19, s20, s21, b22, i23, b24, l25, b26, l27, b28, l29, b30, l31⟩ => [.n n5, .n n6, .n n7, .n n8, .i i9, .d d10, .d d11, .b b12, .l l13, .i i14, .i i15, .i i16, .i i17, .s s18, .i i19, .s s20, .s s21, .b b22, .i i23, .b b24, .l l25, .b b26, .l l27, .b b28, .l l29, .b b30, .l l31]
def of29 : List Leaf → Option S29
  | [.n n5, .n n6, .n n7, .n n8, .i i9, .d d10, .d d11, .b b12, .l l13, .i i14, .i i15, .i i16, .i i17, .s s18, .i i19, .s s20, .s s21, .b b22, .i i23, .b b24, .l l25, .b b26, .l l27, .b b28, .l l29, .b b30, .l l31] => some ⟨n5, n6, n7, n8, i9, d10, d11, b12, l13, i14, i15, i16, i17, s18, i19, s20, s21, b22, i23, b24, l25, b26, l27, b28, l29, b30, l31⟩
  | _ => none
def ex29 (k : Kont) : X29 → Option D
  | .e0 n5 n6 n7 n8 i9 d10 d11 b12 l13 i14 i15 i16 i17 s18 i19 s20 s21 b22 i23 b24 l25 b26 l27 b28 l29 b30 l31 => k (.exit 1) ((us 2 ((.ptr 0 [] k0_) :: (us 1 ((.ptr 2 [] k0_) :: (.ptr 3 [] k1_) :: (us 7 ((.sref 5 n5 n6) :: (.sref 4 n7 n8) :: (vi i9) :: (us 101 ((vi i9) :: (.ptr 0 [0] (.slice 39)) :: (vk (.slice 39) (d10.at 0)) :: (vi (nI (d10.at 0).elems.length)) :: (vb (ltI i9 (nI (d10.at 0).elems.length))) :: (us 116 [])))))))))) [(.var k0_ (vk k0_ d10)), (.var k2_ (vk k2_ d11)), (.var k0_ (vk k0_ (da [(dl b12 l13), (di i14), (di i15)]))), (.var k1_ (vk k1_ (da [(di i16), (di i17), (dS s18), (da [(di i19), (dS s20), (dS s21), (db b22), (di i23), (dl b24 l25)]), (dl b26 l27)]))), (.row 58 true b28 l29), (.row 39 true b30 l31)]
def ps29 : List PV := ((up 2 ((.ptr 0 [] k0_) :: (up 1 ((.ptr 2 [] k0_) :: (.ptr 3 [] k1_) :: (up 7 ((.sref 5) :: (.sref 4) :: (.d (.int .i64) (.int .i64)) :: (up 222 []))))))))
def qs29 : List PO := [(.var k0_ (.d k0_ .x)), (.var k2_ (.d k2_ .x)), (.var k0_ (.d k0_ (.agg [.slice, (.int .i64), (.int .i64)]))), (.var k1_ (.d k1_ (.agg [(.int .i64), (.int .i64), .str, (.agg [(.int .i64), .str, .str, .bool, (.int .i64), .slice]), .slice]))), (.row 58 true), (.row 39 true)]
noncomputable def t (M : Nat) : List Ent := ⟨28, 11, 0, 29, sumS [2, 4, 5, 13, 14, 15] ps29 qs29 [(14, 4), (13, 5)] of29 (st29 M) ex29 M⟩ :: []
theorem t_ok (M : Nat) : AllOk (e M) (tblOf (t M)) := AllOk.addS (n0 := 6) (lv := lv29) AllOk.nil (by kernel_rfl) rfl (by intro ls s h; unfold of29 at h; (repeat' split at h) <;> simp at h; subst h; rfl) (by intro s; kernel_rfl) (by intro s; kernel_rfl) (by intro s nx k; kernel_rfl)
def s (M : Nat) (p0 : D) (p1 : D) : Option D :=
  (bd (F50.s FUEL p0 (p1.at 1).s) fun r1 => (cond (eqI (p1.at 0).i 0) (bd (F51.s FUEL (p1.at 1).s) fun r2 => (cond (!r2.b) (some (D.tup [p0, (da [(di 2), (di 0), (dS (bs [])), (da [(di 0), (dS (bs [])), (dS (bs [])), (db false), (di 0), (dl false [])]), (dl false [])]), (dl false [])])) (cond (geI r1.i 0) (some (D.tup [p0, (da [(di 4), (di 0), (dS (bs [])), (da [(di 0), (dS (bs [])), (dS (bs [])), (db false), (di 0), (dl false [])]), (dl false [])]), (dl false [])])) (cond (geI (nI (p0.at 0).elems.length) 12) (some (D.tup [p0, (da [(di 10), (di 0), (dS (bs [])), (da [(di 0), (dS (bs [])), (dS (bs [])), (db false), (di 0), (dl false [])]), (dl false [])]), (dl false [])])) (cond (geI (p0.at 1).i 1099511627776) (some (D.tup [p0, (da [(di 10), (di 0), (dS (bs [])), (da [(di 0), (dS (bs [])), (dS (bs [])), (db false), (di 0), (dl false [])]), (dl false [])]), (dl false [])])) (bd (F52.s FUEL (ad .i64 (p0.at 1).i 1) (p1.at 1).s) fun r3 => (cond (neI (r3.at 1).i 0) (some (D.tup [p0, (da [(r3.at 1), (di 0), (dS (bs [])), (da [(di 0), (dS (bs [])), (dS (bs [])), (db false), (di 0), (dl false [])]), (dl false [])]), (dl false [])])) (cond (mx (p0.at 0).elems.length) (cond (mx ((p0.at 0).elems.length + 1)) (some (D.tup [(da [(dl ((!(p0.at 0).elems.isEmpty) || true) (((ap (((p0.at 0).elems.drop 0).take (p0.at 0).elems.length) [(r3.at 0)]).drop 0).take ((p0.at 0).elems.length + 1))), ((r3.at 0).at 0), (p0.at 2)]), (da [(di 0), ((r3.at 0).at 0), (dS (bs [])), (da [(di 0), (dS (bs [])), (dS (bs [])), (db false), (di 0), (dl false [])]), (dl false [])]), (dl true [(da [(di 0), ((r3.at 0).at 0), ((r3.at 0).at 1), (di 0), (di 0), (da (rp 32 (D.int .u8 0)))])])])) none) none)))))))) (cond (eqI (p1.at 0).i 7) (bd (F53.s FUEL (p0.at 2).i (p1.at 3).i) fun r4 => (cond (eqI ((D.agg (p0.parts.set 2 r4)).at 2).i (p0.at 2).i) (some (D.tup [(D.agg (p0.parts.set 2 r4)), (da [(di 0), (p0.at 2), (dS (bs [])), (da [(di 0), (dS (bs [])), (dS (bs [])), (db false), (di 0), (dl false [])]), (dl false [])]), (dl false [])])) (some (D.tup [(D.agg (p0.parts.set 2 r4)), (da [(di 0), ((D.agg (p0.parts.set 2 r4)).at 2), (dS (bs [])), (da [(di 0), (dS (bs [])), (dS (bs [])), (db false), (di 0), (dl false [])]), (dl false [])]), (dl true [(da [(di 7), (di 0), (dS (bs [])), ((D.agg (p0.parts.set 2 r4)).at 2), (di 0), (da (rp 32 (D.int .u8 0)))])])])))) (cond (eqI (p1.at 0).i 8) (goS (st29 M) M ⟨0, 0, 0, 0, 0, p0, p1, false, [], 0, 0, 0, 0, (bs []), 0, (bs []), (bs []), false, 0, false, [], false, [], false, [], false, []⟩ fun x => match x with | .e0 n5 n6 n7 n8 i9 d10 d11 b12 l13 i14 i15 i16 i17 s18 i19 s20 s21 b22 i23 b24 l25 b26 l27 b28 l29 b30 l31 => (some (D.tup [(da [(dl b30 ((l31.drop n5).take n6)), (d10.at 1), (d10.at 2)]), (da [(di 0), (di (nI n8)), (dS (bs [])), (da [(di 0), (dS (bs [])), (dS (bs [])), (db false), (di 0), (dl false [])]), (dl false [])]), (dl b28 ((l29.drop n7).take n8))]))) (cond (eqI (p1.at 0).i 11) (bd (F55.s FUEL p0) fun r33 => (some (D.tup [p0, (da [(di 0), (di 0), (dS (bs [])), (da [(di 0), (dS (bs [])), (dS (bs [])), (db false), (di 0), (dl false [])]), (dl r33.nn ((r33.elems.drop 0).take r33.elems.length))]), (dl false [])]))) (cond (eqI (p1.at 0).i 1) (cond (eqI (p1.at 0).i 1) (cond (ltI r1.i 0) (some (D.tup [p0, (da [(di 3), (di 0), (dS (bs [])), (da [(di 0), (dS (bs [])), (dS (bs [])), (db false), (di 0), (dl false [])]), (dl false [])]), (dl false [])])) (cond (inb r1.i (p0.at 0).elems.length) (cond (eqI (p1.at 0).i 9) (bd (F56.s FUEL (ix (p0.at 0).elems (r1.i).toNat) (p1.at 4).i (p1.at 5).i) fun r34 => (some (D.tup [p0, (da [(r34.at 1), (di 0), (r34.at 0), (da [(di 0), (dS (bs [])), (dS (bs [])), (db false), (di 0), (dl false [])]), (dl false [])]), (dl false [])]))) (cond (eqI (p1.at 0).i 10) (some (D.tup [p0, (da [(di 0), (di 0), (dS (bs [])), (D.agg ((ix (p0.at 0).elems (r1.i).toNat).parts.set 2 (dS (bs [])))), (dl false [])]), (dl false [])])) (bd (F57.s FUEL (ix (p0.at 0).elems (r1.i).toNat) p1 (p0.at 2).i) fun r35 => (cond (neI (r35.at 2).i 0) (some (D.tup [p0, (da [(r35.at 2), (di 0), (dS (bs [])), (da [(di 0), (dS (bs [])), (dS (bs [])), (db false), (di 0), (dl false [])]), (dl false [])]), (dl false [])])) (cond (eqI (p1.at 0).i 6) (bd (F58.s FUEL p0 r1.i (r35.at 0) (eqI (p1.at 0).i 6)) fun r36 => (some (D.tup [r36, (da [(di 0), ((ix (p0.at 0).elems (r1.i).toNat).at 0), (dS (bs [])), (da [(di 0), (dS (bs [])), (dS (bs [])), (db false), (di 0), (dl false [])]), (dl false [])]), (dl true [(r35.at 1)])]))) (bd (F58.s FUEL p0 r1.i (r35.at 0) (eqI (p1.at 0).i 6)) fun r37 => (some (D.tup [r37, (da [(di 0), (di (nI ((r35.at 0).at 2).s.size)), (dS (bs [])), (da [(di 0), (dS (bs [])), (dS (bs [])), (db false), (di 0), (dl false [])]), (dl false [])]), (dl true [(r35.at 1)])])))))))) none)) (some (D.tup [p0, (da [(di 1), (di 0), (dS (bs [])), (da [(di 0), (dS (bs [])), (dS (bs [])), (db false), (di 0), (dl false [])]), (dl false [])]), (dl false [])]))) (cond (eqI (p1.at 0).i 2) (cond (eqI (p1.at 0).i 2) (cond (ltI r1.i 0) (some (D.tup [p0, (da [(di 3), (di 0), (dS (bs [])), (da [(di 0), (dS (bs [])), (dS (bs [])), (db false), (di 0), (dl false [])]), (dl false [])]), (dl false [])])) (cond (inb r1.i (p0.at 0).elems.length) (cond (eqI (p1.at 0).i 9) (bd (F56.s FUEL (ix (p0.at 0).elems (r1.i).toNat) (p1.at 4).i (p1.at 5).i) fun r38 => (some (D.tup [p0, (da [(r38.at 1), (di 0), (r38.at 0), (da [(di 0), (dS (bs [])), (dS (bs [])), (db false), (di 0), (dl false [])]), (dl false [])]), (dl false [])]))) (cond (eqI (p1.at 0).i 10) (some (D.tup [p0, (da [(di 0), (di 0), (dS (bs [])), (D.agg ((ix (p0.at 0).elems (r1.i).toNat).parts.set 2 (dS (bs [])))), (dl false [])]), (dl false [])])) (bd (F57.s FUEL (ix (p0.at 0).elems (r1.i).toNat) p1 (p0.at 2).i) fun r39 => (cond (neI (r39.at 2).i 0) (some (D.tup [p0, (da [(r39.at 2), (di 0), (dS (bs [])), (da [(di 0), (dS (bs [])), (dS (bs [])), (db false), (di 0), (dl false [])]), (dl false [])]), (dl false [])])) (cond (eqI (p1.at 0).i 6) (bd (F58.s FUEL p0 r1.i (r39.at 0) (eqI (p1.at 0).i 6)) fun r40 => (some (D.tup [r40, (da [(di 0), ((ix (p0.at 0).elems (r1.i).toNat).at 0), (dS (bs [])), (da [(di 0), (dS (bs [])), (dS (bs [])), (db false), (di 0), (dl false [])]), (dl false [])]), (dl true [(r39.at 1)])]))) (bd (F58.s FUEL p0 r1.i (r39.at 0) (eqI (p1.at 0).i 6)) fun r41 => (some (D.tup [r41, (da [(di 0), (di (nI ((r39.at 0).at 2).s.size)), (dS (bs [])), (da [(di 0), (dS (bs [])), (dS (bs [])), (db false), (di 0), (dl false [])]), (dl false [])]), (dl true [(r39.at 1)])])))))))) none)) (some (D.tup [p0, (da [(di 1), (di 0), (dS (bs [])), (da [(di 0), (dS (bs [])), (dS (bs [])), (db false), (di 0), (dl false [])]), (dl false [])]), (dl false [])]))) (cond (eqI (p1.at 0).i 3) (cond (eqI (p1.at 0).i 3) (cond (ltI r1.i 0) (some (D.tup [p0, (da [(di 3), (di 0), (dS (bs [])), (da [(di 0), (dS (bs [])), (dS (bs [])), (db false), (di 0), (dl false [])]), (dl false [])]), (dl false [])])) (cond (inb r1.i (p0.at 0).elems.length) (cond (eqI (p1.at 0).i 9) (bd (F56.s FUEL (ix (p0.at 0).elems (r1.i).toNat) (p1.at 4).i (p1.at 5).i) fun r42 => (some (D.tup [p0, (da [(r42.at 1), (di 0), (r42.at 0), (da [(di 0), (dS (bs [])), (dS (bs [])), (db false), (di 0), (dl false [])]), (dl false [])]), (dl false [])]))) (cond (eqI (p1.at 0).i 10) (some (D.tup [p0, (da [(di 0), (di 0), (dS (bs [])), (D.agg ((ix (p0.at 0).elems (r1.i).toNat).parts.set 2 (dS (bs [])))), (dl false [])]), (dl false [])])) (bd (F57.s FUEL (ix (p0.at 0).elems (r1.i).toNat) p1 (p0.at 2).i) fun r43 => (cond (neI (r43.at 2).i 0) (some (D.tup [p0, (da [(r43.at 2), (di 0), (dS (bs [])), (da [(di 0), (dS (bs [])), (dS (bs [])), (db false), (di 0), (dl false [])]), (dl false [])]), (dl false [])])) (cond (eqI (p1.at 0).i 6) (bd (F58.s FUEL p0 r1.i (r43.at 0) (eqI (p1.at 0).i 6)) fun r44 => (some (D.tup [r44, (da [(di 0), ((ix (p0.at 0).elems (r1.i).toNat).at 0), (dS (bs [])), (da [(di 0), (dS (bs [])), (dS (bs [])), (db false), (di 0), (dl false [])]), (dl false [])]), (dl true [(r43.at 1)])]))) (bd (F58.s FUEL p0 r1.i (r43.at 0) (eqI (p1.at 0).i 6)) fun r45 => (some (D.tup [r45, (da [(di 0), (di (nI ((r43.at 0).at 2).s.size)), (dS (bs [])), (da [(di 0), (dS (bs [])), (dS (bs [])), (db false), (di 0), (dl false [])]), (dl false [])]), (dl true [(r43.at 1)])])))))))) none)) (some (D.tup [p0, (da [(di 1), (di 0), (dS (bs [])), (da [(di 0), (dS (bs [])), (dS (bs [])), (db false), (di 0), (dl false [])]), (dl false [])]), (dl false [])]))) (cond (eqI (p1.at 0).i 4) (cond (eqI (p1.at 0).i 4) (cond (ltI r1.i 0) (some (D.tup [p0, (da [(di 3), (di 0), (dS (bs [])), (da [(di 0), (dS (bs [])), (dS (bs [])), (db false), (di 0), (dl false [])]), (dl false [])]), (dl false [])])) (cond (inb r1.i (p0.at 0).elems.length) (cond (eqI (p1.at 0).i 9) (bd (F56.s FUEL (ix (p0.at 0).elems (r1.i).toNat) (p1.at 4).i (p1.at 5).i) fun r46 => (some (D.tup [p0, (da [(r46.at 1), (di 0), (r46.at 0), (da [(di 0), (dS (bs [])), (dS (bs [])), (db false), (di 0), (dl false [])]), (dl false [])]), (dl false [])]))) (cond (eqI (p1.at 0).i 10) (some (D.tup [p0, (da [(di 0), (di 0), (dS (bs [])), (D.agg ((ix (p0.at 0).elems (r1.i).toNat).parts.set 2 (dS (bs [])))), (dl false [])]), (dl false [])])) (bd (F57.s FUEL (ix (p0.at 0).elems (r1.i).toNat) p1 (p0.at 2).i) fun r47 => (cond (neI (r47.at 2).i 0) (some (D.tup [p0, (da [(r47.at 2), (di 0), (dS (bs [])), (da [(di 0), (dS (bs [])), (dS (bs [])), (db false), (di 0), (dl false [])]), (dl false [])]), (dl false [])])) (cond (eqI (p1.at 0).i 6) (bd (F58.s FUEL p0 r1.i (r47.at 0) (eqI (p1.at 0).i 6)) fun r48 => (some (D.tup [r48, (da [(di 0), ((ix (p0.at 0).elems (r1.i).toNat).at 0), (dS (bs [])), (da [(di 0), (dS (bs [])), (dS (bs [])), (db false), (di 0), (dl false [])]), (dl false [])]), (dl true [(r47.at 1)])]))) (bd (F58.s FUEL p0 r1.i (r47.at 0) (eqI (p1.at 0).i 6)) fun r49 => (some (D.tup [r49, (da [(di 0), (di (nI ((r47.at 0).at 2).s.size)), (dS (bs [])), (da [(di 0), (dS (bs [])), (dS (bs [])), (db false), (di 0), (dl false [])]), (dl false [])]), (dl true [(r47.at 1)])])))))))) none)) (some (D.tup [p0, (da [(di 1), (di 0), (dS (bs [])), (da [(di 0), (dS (bs [])), (dS (bs [])), (db false), (di 0), (dl false [])]), (dl false [])]), (dl false [])]))) (cond (eqI (p1.at 0).i 5) (cond (eqI (p1.at 0).i 5) (cond (ltI r1.i 0) (some (D.tup [p0, (da [(di 3), (di 0), (dS (bs [])), (da [(di 0), (dS (bs [])), (dS (bs [])), (db false), (di 0), (dl false [])]), (dl false [])]), (dl false [])])) (cond (inb r1.i (p0.at 0).elems.length) (cond (eqI (p1.at 0).i 9) (bd (F56.s FUEL (ix (p0.at 0).elems (r1.i).toNat) (p1.at 4).i (p1.at 5).i) fun r50 => (some (D.tup [p0, (da [(r50.at 1), (di 0), (r50.at 0), (da [(di 0), (dS (bs [])), (dS (bs [])), (db false), (di 0), (dl false [])]), (dl false [])]), (dl false [])]))) (cond (eqI (p1.at 0).i 10) (some (D.tup [p0, (da [(di 0), (di 0), (dS (bs [])), (D.agg ((ix (p0.at 0).elems (r1.i).toNat).parts.set 2 (dS (bs [])))), (dl false [])]), (dl false [])])) (bd (F57.s FUEL (ix (p0.at 0).elems (r1.i).toNat) p1 (p0.at 2).i) fun r51 => (cond (neI (r51.at 2).i 0) (some (D.tup [p0, (da [(r51.at 2), (di 0), (dS (bs [])), (da [(di 0), (dS (bs [])), (dS (bs [])), (db false), (di 0), (dl false [])]), (dl false [])]), (dl false [])])) (cond (eqI (p1.at 0).i 6) (bd (F58.s FUEL p0 r1.i (r51.at 0) (eqI (p1.at 0).i 6)) fun r52 => (some (D.tup [r52, (da [(di 0), ((ix (p0.at 0).elems (r1.i).toNat).at 0), (dS (bs [])), (da [(di 0), (dS (bs [])), (dS (bs [])), (db false), (di 0), (dl false [])]), (dl false [])]), (dl true [(r51.at 1)])]))) (bd (F58.s FUEL p0 r1.i (r51.at 0) (eqI (p1.at 0).i 6)) fun r53 => (some (D.tup [r53, (da [(di 0), (di (nI ((r51.at 0).at 2).s.size)), (dS (bs [])), (da [(di 0), (dS (bs [])), (dS (bs [])), (db false), (di 0), (dl false [])]), (dl false [])]), (dl true [(r51.at 1)])])))))))) none)) (some (D.tup [p0, (da [(di 1), (di 0), (dS (bs [])), (da [(di 0), (dS (bs [])), (dS (bs [])), (db false), (di 0), (dl false [])]), (dl false [])]), (dl false [])]))) (cond (eqI (p1.at 0).i 6) (cond (eqI (p1.at 0).i 6) (cond (ltI r1.i 0) (some (D.tup [p0, (da [(di 3), (di 0), (dS (bs [])), (da [(di 0), (dS (bs [])), (dS (bs [])), (db false), (di 0), (dl false [])]), (dl false [])]), (dl false [])])) (cond (inb r1.i (p0.at 0).elems.length) (cond (eqI (p1.at 0).i 9) (bd (F56.s FUEL (ix (p0.at 0).elems (r1.i).toNat) (p1.at 4).i (p1.at 5).i) fun r54 => (some (D.tup [p0, (da [(r54.at 1), (di 0), (r54.at 0), (da [(di 0), (dS (bs [])), (dS (bs [])), (db false), (di 0), (dl false [])]), (dl false [])]), (dl false [])]))) (cond (eqI (p1.at 0).i 10) (some (D.tup [p0, (da [(di 0), (di 0), (dS (bs [])), (D.agg ((ix (p0.at 0).elems (r1.i).toNat).parts.set 2 (dS (bs [])))), (dl false [])]), (dl false [])])) (bd (F57.s FUEL (ix (p0.at 0).elems (r1.i).toNat) p1 (p0.at 2).i) fun r55 => (cond (neI (r55.at 2).i 0) (some (D.tup [p0, (da [(r55.at 2), (di 0), (dS (bs [])), (da [(di 0), (dS (bs [])), (dS (bs [])), (db false), (di 0), (dl false [])]), (dl false [])]), (dl false [])])) (cond (eqI (p1.at 0).i 6) (bd (F58.s FUEL p0 r1.i (r55.at 0) (eqI (p1.at 0).i 6)) fun r56 => (some (D.tup [r56, (da [(di 0), ((ix (p0.at 0).elems (r1.i).toNat).at 0), (dS (bs [])), (da [(di 0), (dS (bs [])), (dS (bs [])), (db false), (di 0), (dl false [])]), (dl false [])]), (dl true [(r55.at 1)])]))) (bd (F58.s FUEL p0 r1.i (r55.at 0) (eqI (p1.at 0).i 6)) fun r57 => (some (D.tup [r57, (da [(di 0), (di (nI ((r55.at 0).at 2).s.size)), (dS (bs [])), (da [(di 0), (dS (bs [])), (dS (bs [])), (db false), (di 0), (dl false [])]), (dl false [])]), (dl true [(r55.at 1)])])))))))) none)) (some (D.tup [p0, (da [(di 1), (di 0), (dS (bs [])), (da [(di 0), (dS (bs [])), (dS (bs [])), (db false), (di 0), (dl false [])]), (dl false [])]), (dl false [])]))) (cond (eqI (p1.at 0).i 9) (cond (eqI (p1.at 0).i 9) (cond (ltI r1.i 0) (some (D.tup [p0, (da [(di 3), (di 0), (dS (bs [])), (da [(di 0), (dS (bs [])), (dS (bs [])), (db false), (di 0), (dl false [])]), (dl false [])]), (dl false [])])) (cond (inb r1.i (p0.at 0).elems.length) (cond (eqI (p1.at 0).i 9) (bd (F56.s FUEL (ix (p0.at 0).elems (r1.i).toNat) (p1.at 4).i (p1.at 5).i) fun r58 => (some (D.tup [p0, (da [(r58.at 1), (di 0), (r58.at 0), (da [(di 0), (dS (bs [])), (dS (bs [])), (db false), (di 0), (dl false [])]), (dl false [])]), (dl false [])]))) (cond (eqI (p1.at 0).i 10) (some (D.tup [p0, (da [(di 0), (di 0), (dS (bs [])), (D.agg ((ix (p0.at 0).elems (r1.i).toNat).parts.set 2 (dS (bs [])))), (dl false [])]), (dl false [])])) (bd (F57.s FUEL (ix (p0.at 0).elems (r1.i).toNat) p1 (p0.at 2).i) fun r59 => (cond (neI (r59.at 2).i 0) (some (D.tup [p0, (da [(r59.at 2), (di 0), (dS (bs [])), (da [(di 0), (dS (bs [])), (dS (bs [])), (db false), (di 0), (dl false [])]), (dl false [])]), (dl false [])])) (cond (eqI (p1.at 0).i 6) (bd (F58.s FUEL p0 r1.i (r59.at 0) (eqI (p1.at 0).i 6)) fun r60 => (some (D.tup [r60, (da [(di 0), ((ix (p0.at 0).elems (r1.i).toNat).at 0), (dS (bs [])), (da [(di 0), (dS (bs [])), (dS (bs [])), (db false), (di 0), (dl false [])]), (dl false [])]), (dl true [(r59.at 1)])]))) (bd (F58.s FUEL p0 r1.i (r59.at 0) (eqI (p1.at 0).i 6)) fun r61 => (some (D.tup [r61, (da [(di 0), (di (nI ((r59.at 0).at 2).s.size)), (dS (bs [])), (da [(di 0), (dS (bs [])), (dS (bs [])), (db false), (di 0), (dl false [])]), (dl false [])]), (dl true [(r59.at 1)])])))))))) none)) (some (D.tup [p0, (da [(di 1), (di 0), (dS (bs [])), (da [(di 0), (dS (bs [])), (dS (bs [])), (db false), (di 0), (dl false [])]), (dl false [])]), (dl false [])]))) (cond (eqI (p1.at 0).i 10) (cond (ltI r1.i 0) (some (D.tup [p0, (da [(di 3), (di 0), (dS (bs [])), (da [(di 0), (dS (bs [])), (dS (bs [])), (db false), (di 0), (dl false [])]), (dl false [])]), (dl false [])])) (cond (inb r1.i (p0.at 0).elems.length) (cond (eqI (p1.at 0).i 9) (bd (F56.s FUEL (ix (p0.at 0).elems (r1.i).toNat) (p1.at 4).i (p1.at 5).i) fun r62 => (some (D.tup [p0, (da [(r62.at 1), (di 0), (r62.at 0), (da [(di 0), (dS (bs [])), (dS (bs [])), (db false), (di 0), (dl false [])]), (dl false [])]), (dl false [])]))) (cond (eqI (p1.at 0).i 10) (some (D.tup [p0, (da [(di 0), (di 0), (dS (bs [])), (D.agg ((ix (p0.at 0).elems (r1.i).toNat).parts.set 2 (dS (bs [])))), (dl false [])]), (dl false [])])) (bd (F57.s FUEL (ix (p0.at 0).elems (r1.i).toNat) p1 (p0.at 2).i) fun r63 => (cond (neI (r63.at 2).i 0) (some (D.tup [p0, (da [(r63.at 2), (di 0), (dS (bs [])), (da [(di 0), (dS (bs [])), (dS (bs [])), (db false), (di 0), (dl false [])]), (dl false [])]), (dl false [])])) (cond (eqI (p1.at 0).i 6) (bd (F58.s FUEL p0 r1.i (r63.at 0) (eqI (p1.at 0).i 6)) fun r64 => (some (D.tup [r64, (da [(di 0), ((ix (p0.at 0).elems (r1.i).toNat).at 0), (dS (bs [])), (da [(di 0), (dS (bs [])), (dS (bs [])), (db false), (di 0), (dl false [])]), (dl false [])]), (dl true [(r63.at 1)])]))) (bd (F58.s FUEL p0 r1.i (r63.at 0) (eqI (p1.at 0).i 6)) fun r65 => (some (D.tup [r65, (da [(di 0), (di (nI ((r63.at 0).at 2).s.size)), (dS (bs [])), (da [(di 0), (dS (bs [])), (dS (bs [])), (db false), (di 0), (dl false [])]), (dl false [])]), (dl true [(r63.at 1)])])))))))) none)) (some (D.tup [p0, (da [(di 1), (di 0), (dS (bs [])), (da [(di 0), (dS (bs [])), (dS (bs [])), (db false), (di 0), (dl false [])]), (dl false [])]), (dl false [])])))))))))))))))
theorem run (M : Nat) (p0 : D) (p1 : D) : callS (e M) (tblOf (t M)) 12 (.fn 28) [.d (.struct [25, 3, 3]) p0, .d (.struct [50, 9, 9, 3, 3, 3]) p1] [] (fun v H => finish ty [32, 41, 29] v H) = s M p0 p1 := by kernel_rfl
def c : Con := { run := fun ds => match ds with | [p0, p1] => s FUEL p0 p1 | _ => none }
theorem ok : ConOk (28, c) := mkC Tryz.f28 [(.struct [25, 3, 3]), (.struct [50, 9, 9, 3, 3, 3])] [32, 41, 29] (by kernel_rfl) (by kernel_rfl) (by kernel_rfl) (by kernel_rfl) (allCons F50.ok (allCons F51.ok (allCons F52.ok (allCons F53.ok (allCons F54.ok (allCons F55.ok (allCons F56.ok (allCons F57.ok (allCons F58.ok allNil))))))))) allNil (t_ok FUEL) fun a => run FUEL a.1 a.2.1
end F28
namespace F9
def k0_ : K := (.struct [25, 3, 3])
def cons : List (Nat × Con) := [(28, F28.c)]
def exts : List (Nat × Ext) := []
def h : List (Nat × Nat × Hint) := [(9, 4, { live := [1, 2, 4, 7, 8, 9], rows := [(7, 41), (8, 58)] })]
noncomputable def e (M : Nat) : Env := env cons exts h M
structure S4 where
  (d1 : D) (n2 n3 n4 n5 : Nat) (i6 : Int) (d7 : D) (b8 : Bool) (l9 : List D) (i10 i11 : Int) (b12 : Bool) (l13 : List D) (b14 : Bool) (l15 : List D)
inductive X4 where
  | e0 (d1 : D) (n2 n3 n4 n5 : Nat) (i6 : Int) (d7 : D) (b8 : Bool) (l9 : List D) (i10 i11 : Int) (b12 : Bool) (l13 : List D) (b14 : Bool) (l15 : List D)
def st4 (M : Nat) : S4 → (S4 → Option D) → (X4 → Option D) → Option D
  | ⟨d1, n2, n3, n4, n5, i6, d7, b8, l9, i10, i11, b12, l13, b14, l15⟩, rec, K => (cond (ltI i6 (nI d1.elems.length)) (cond (inb i6 d1.elems.length) (bd (F28.s FUEL d7 (ix d1.elems i6.toNat)) fun r16 => (cond (mx (n3 + 1)) (cond (mx (n5 + (r16.at 2).elems.length)) (rec ⟨d1, 0, (n3 + 1), 0, (n5 + (r16.at 2).elems.length), (ad .i64 i6 1), (r16.at 0), b8, l9, i10, i11, (b12 || true), (ap ((l13.drop n2).take n3) [(r16.at 1)]), (b14 || (!(r16.at 2).elems.isEmpty)), (ap ((l15.drop n4).take n5) (r16.at 2).elems)⟩) none) none)) none) (K (.e0 d1 n2 n3 n4 n5 i6 d7 b8 l9 i10 i11 b12 l13 b14 l15)))
def lv4 : S4 → List Leaf
  | ⟨d1, n2, n3, n4, n5, i6, d7, b8, l9, i10, i11, b12, l13, b14, l15⟩ => [.d d1, .n n2, .n n3, .n n4, .n n5, .i i6, .d d7, .b b8, .l l9, .i i10, .i i11, .b b12, .l l13, .b b14, .l l15]
def of4 : List Leaf → Option S4
  | [.d d1, .n n2, .n n3, .n n4, .n n5, .i i6, .d d7, .b b8, .l l9, .i i10, .i i11, .b b12, .l l13, .b b14, .l l15] => some ⟨d1, n2, n3, n4, n5, i6, d7, b8, l9, i10, i11, b12, l13, b14, l15⟩
  | _ => none
def ex4 (k : Kont) : X4 → Option D
  | .e0 d1 n2 n3 n4 n5 i6 d7 b8 l9 i10 i11 b12 l13 b14 l15 => k (.exit 0) ((us 1 ((vk (.slice 52) d1) :: (.ptr 0 [] k0_) :: (us 1 ((.ptr 1 [] k0_) :: (us 2 ((.sref 2 n2 n3) :: (.sref 3 n4 n5) :: (vi i6) :: (us 3 ((vi i6) :: (vk (.slice 52) d1) :: (vi (nI d1.elems.length)) :: (vb (ltI i6 (nI d1.elems.length))) :: (us 23 [])))))))))) [(.var k0_ (vk k0_ d7)), (.var k0_ (vk k0_ (da [(dl b8 l9), (di i10), (di i11)]))), (.row 41 true b12 l13), (.row 58 true b14 l15)]
def ps4 : List PV := ((up 1 ((.d (.slice 52) .x) :: (.ptr 0 [] k0_) :: (up 1 ((.ptr 1 [] k0_) :: (up 2 ((.sref 2) :: (.sref 3) :: (.d (.int .i64) (.int .i64)) :: (up 30 []))))))))
def qs4 : List PO := [(.var k0_ (.d k0_ .x)), (.var k0_ (.d k0_ (.agg [.slice, (.int .i64), (.int .i64)]))), (.row 41 true), (.row 58 true)]
noncomputable def t (M : Nat) : List Ent := ⟨9, 11, 0, 4, sumS [1, 2, 4, 7, 8, 9] ps4 qs4 [(7, 2), (8, 3)] of4 (st4 M) ex4 M⟩ :: []
theorem t_ok (M : Nat) : AllOk (e M) (tblOf (t M)) := AllOk.addS (n0 := 4) (lv := lv4) AllOk.nil (by kernel_rfl) rfl (by intro ls s h; unfold of4 at h; (repeat' split at h) <;> simp at h; subst h; rfl) (by intro s; kernel_rfl) (by intro s; kernel_rfl) (by intro s nx k; kernel_rfl)
def s (M : Nat) (p0 : D) (p1 : D) : Option D :=
  (goS (st4 M) M ⟨p1, 0, 0, 0, 0, 0, p0, false, [], 0, 0, false, [], false, []⟩ fun x => match x with | .e0 d1 n2 n3 n4 n5 i6 d7 b8 l9 i10 i11 b12 l13 b14 l15 => (some (D.tup [d7, (dl b12 ((l13.drop n2).take n3)), (dl b14 ((l15.drop n4).take n5))])))
theorem run (M : Nat) (p0 : D) (p1 : D) : callS (e M) (tblOf (t M)) 12 (.fn 9) [.d (.struct [25, 3, 3]) p0, .d (.slice 52) p1] [] (fun v H => finish ty [32, 28, 29] v H) = s M p0 p1 := by kernel_rfl
def c : Con := { run := fun ds => match ds with | [p0, p1] => s FUEL p0 p1 | _ => none }
theorem ok : ConOk (9, c) := mkC Tryz.f9 [(.struct [25, 3, 3]), (.slice 52)] [32, 28, 29] (by kernel_rfl) (by kernel_rfl) (by kernel_rfl) (by kernel_rfl) (allCons F28.ok allNil) allNil (t_ok FUEL) fun a => run FUEL a.1 a.2.1
end F9
namespace F30
def cons : List (Nat × Con) := []
def exts : List (Nat × Ext) := []
def h : List (Nat × Nat × Hint) := [(30, 4, { live := [0, 1, 5] })]
noncomputable def e (M : Nat) : Env := env cons exts h M
structure S4 where
  (d1 d2 : D) (i3 : Int)
inductive X4 where
  | e0 (d1 d2 : D) (i3 : Int)
  | e1 (d1 d2 : D) (i3 : Int)
def st4 (M : Nat) : S4 → (S4 → Option D) → (X4 → Option D) → Option D
  | ⟨d1, d2, i3⟩, rec, K => (cond (ltI i3 (nI d1.elems.length)) (cond (inb i3 d1.elems.length) (cond (inb i3 d2.elems.length) (cond (!(eqS (ix d1.elems i3.toNat).s (ix d2.elems i3.toNat).s)) (K (.e0 d1 d2 i3)) (rec ⟨d1, d2, (ad .i64 i3 1)⟩)) none) none) (K (.e1 d1 d2 i3)))
def lv4 : S4 → List Leaf
  | ⟨d1, d2, i3⟩ => [.d d1, .d d2, .i i3]
def of4 : List Leaf → Option S4
  | [.d d1, .d d2, .i i3] => some ⟨d1, d2, i3⟩
  | _ => none
def ex4 (k : Kont) : X4 → Option D
  | .e0 d1 d2 i3 => k .ret ((vk (.slice 9) d1) :: (vk (.slice 9) d2) :: (us 2 ((vb false) :: (vi i3) :: (us 5 ((vi i3) :: (vk (.slice 9) d1) :: (vi (nI d1.elems.length)) :: (vb (ltI i3 (nI d1.elems.length))) :: (us 2 ((vk (.slice 9) d1) :: (vi i3) :: (.cptr .str (ix d1.elems i3.toNat)) :: (vk .str (ix d1.elems i3.toNat)) :: (vk (.slice 9) d2) :: (vi i3) :: (.cptr .str (ix d2.elems i3.toNat)) :: (vk .str (ix d2.elems i3.toNat)) :: (vb (!(eqS (ix d1.elems i3.toNat).s (ix d2.elems i3.toNat).s))) :: []))))))) []
  | .e1 d1 d2 i3 => k (.exit 0) ((vk (.slice 9) d1) :: (vk (.slice 9) d2) :: (us 3 ((vi i3) :: (us 5 ((vi i3) :: (vk (.slice 9) d1) :: (vi (nI d1.elems.length)) :: (vb (ltI i3 (nI d1.elems.length))) :: (us 11 [])))))) []
def ps4 : List PV := ((.d (.slice 9) .x) :: (.d (.slice 9) .x) :: (up 3 ((.d (.int .i64) (.int .i64)) :: (up 20 []))))
def qs4 : List PO := []
noncomputable def t (M : Nat) : List Ent := ⟨30, 11, 0, 4, sumS [0, 1, 5] ps4 qs4 [] of4 (st4 M) ex4 M⟩ :: []
theorem t_ok (M : Nat) : AllOk (e M) (tblOf (t M)) := AllOk.addS (n0 := 0) (lv := lv4) AllOk.nil (by kernel_rfl) rfl (by intro ls s h; unfold of4 at h; (repeat' split at h) <;> simp at h; subst h; rfl) (by intro s; kernel_rfl) (by intro s; kernel_rfl) (by intro s nx k; kernel_rfl)
def s (M : Nat) (p0 : D) (p1 : D) : Option D :=
  (cond (neI (nI p0.elems.length) (nI p1.elems.length)) (some (db false)) (goS (st4 M) M ⟨p0, p1, 0⟩ fun x => match x with | .e0 d1 d2 i3 => (some (db false)) | .e1 d1 d2 i3 => (some (db true))))
theorem run (M : Nat) (p0 : D) (p1 : D) : callS (e M) (tblOf (t M)) 12 (.fn 30) [.d (.slice 9) p0, .d (.slice 9) p1] [] (fun v H => finish ty [4] v H) = s M p0 p1 := by kernel_rfl
def c : Con := { run := fun ds => match ds with | [p0, p1] => s FUEL p0 p1 | _ => none, plain := true }
theorem ok : ConOk (30, c) := mkC Tryz.f30 [(.slice 9), (.slice 9)] [4] (by kernel_rfl) (by kernel_rfl) (by kernel_rfl) (by kernel_rfl) allNil allNil (t_ok FUEL) fun a => run FUEL a.1 a.2.1
end F30
namespace F29
def cons : List (Nat × Con) := [(30, F30.c)]
def exts : List (Nat × Ext) := []
def h : List (Nat × Nat × Hint) := []
noncomputable def e (M : Nat) : Env := env cons exts h M
def s (M : Nat) (p0 : D) (p1 : D) : Option D :=
  (cond (eqI (p0.at 0).i (p1.at 0).i) (cond (eqS (p0.at 1).s (p1.at 1).s) (cond (eqS (p0.at 2).s (p1.at 2).s) (bd (match D.eqv ty eqDepth (p0.at 3) (p1.at 3) .bool with | some z => some (.bool z) | none => none) fun r1 => (cond r1.b (cond (eqI (p0.at 4).i (p1.at 4).i) (bd (F30.s FUEL (p0.at 5) (p1.at 5)) fun r2 => (some r2)) (some (db false))) (some (db false)))) (some (db false))) (some (db false))) (some (db false)))
theorem run (M : Nat) (p0 : D) (p1 : D) : callS (e M) (tblOf []) 12 (.fn 29) [.d (.struct [3, 9, 9, 4, 3, 37]) p0, .d (.struct [3, 9, 9, 4, 3, 37]) p1] [] (fun v H => finish ty [4] v H) = s M p0 p1 := by kernel_rfl
def c : Con := { run := fun ds => match ds with | [p0, p1] => s FUEL p0 p1 | _ => none, plain := true }
theorem ok : ConOk (29, c) := mkC Tryz.f29 [(.struct [3, 9, 9, 4, 3, 37]), (.struct [3, 9, 9, 4, 3, 37])] [4] (by kernel_rfl) (by kernel_rfl) (by kernel_rfl) (by kernel_rfl) (allCons F30.ok allNil) allNil AllOk.nil fun a => run FUEL a.1 a.2.1
end F29
namespace F10
def cons : List (Nat × Con) := [(29, F29.c), (30, F30.c)]
def exts : List (Nat × Ext) := []
def h : List (Nat × Nat × Hint) := []
noncomputable def e (M : Nat) : Env := env cons exts h M
def s (M : Nat) (p0 : D) (p1 : D) : Option D :=
  (cond (eqI (p0.at 0).i (p1.at 0).i) (cond (eqI (p0.at 1).i (p1.at 1).i) (cond (eqS (p0.at 2).s (p1.at 2).s) (bd (F29.s FUEL (p0.at 3) (p1.at 3)) fun r1 => (cond r1.b (bd (F30.s FUEL (p0.at 4) (p1.at 4)) fun r2 => (some r2)) (some (db false)))) (some (db false))) (some (db false))) (some (db false)))
theorem run (M : Nat) (p0 : D) (p1 : D) : callS (e M) (tblOf []) 12 (.fn 10) [.d (.struct [36, 3, 9, 39, 37]) p0, .d (.struct [36, 3, 9, 39, 37]) p1] [] (fun v H => finish ty [4] v H) = s M p0 p1 := by kernel_rfl
def c : Con := { run := fun ds => match ds with | [p0, p1] => s FUEL p0 p1 | _ => none, plain := true }
theorem ok : ConOk (10, c) := mkC Tryz.f10 [(.struct [36, 3, 9, 39, 37]), (.struct [36, 3, 9, 39, 37])] [4] (by kernel_rfl) (by kernel_rfl) (by kernel_rfl) (by kernel_rfl) (allCons F29.ok (allCons F30.ok allNil)) allNil AllOk.nil fun a => run FUEL a.1 a.2.1
end F10
namespace F12
def cons : List (Nat × Con) := []
def exts : List (Nat × Ext) := []
def h : List (Nat × Nat × Hint) := []
noncomputable def e (M : Nat) : Env := env cons exts h M
def s (M : Nat) (p0 : D) : Option D :=
  (some (da [(p0.at 0), (p0.at 1), (p0.at 2)]))
theorem run (M : Nat) (p0 : D) : callS (e M) (tblOf []) 12 (.fn 12) [.d (.struct [25, 3, 3]) p0] [] (fun v H => finish ty [32] v H) = s M p0 := by kernel_rfl
def c : Con := { run := fun ds => match ds with | [p0] => s FUEL p0 | _ => none }
theorem ok : ConOk (12, c) := mkC Tryz.f12 [(.struct [25, 3, 3])] [32] (by kernel_rfl) (by kernel_rfl) (by kernel_rfl) (by kernel_rfl) allNil allNil AllOk.nil fun a => run FUEL a.1
end F12
namespace F11
def k0_ : K := (.struct [25, 3, 3])
def k1_ : K := (.struct [3, 9, 9, 4, 3, 37])
def cons : List (Nat × Con) := [(29, F29.c)]
def exts : List (Nat × Ext) := []
def h : List (Nat × Nat × Hint) := [(11, 4, { live := [2, 3, 5] })]
def q0_ : PO := (.var k0_ (.d k0_ .x))
noncomputable def e (M : Nat) : Env := env cons exts h M
structure S4 where
  (i1 : Int) (d2 d3 : D)
inductive X4 where
  | e0 (i1 : Int) (d2 d3 r4 : D)
  | e1 (i1 : Int) (d2 d3 : D)
def st4 (M : Nat) : S4 → (S4 → Option D) → (X4 → Option D) → Option D
  | ⟨i1, d2, d3⟩, rec, K => (cond (ltI i1 (nI (d2.at 0).elems.length)) (cond (inb i1 (d2.at 0).elems.length) (cond (inb i1 (d3.at 0).elems.length) (bd (F29.s FUEL (ix (d2.at 0).elems i1.toNat) (ix (d3.at 0).elems i1.toNat)) fun r4 => (cond (!r4.b) (K (.e0 i1 d2 d3 r4)) (rec ⟨(ad .i64 i1 1), d2, d3⟩))) none) none) (K (.e1 i1 d2 d3)))
def lv4 : S4 → List Leaf
  | ⟨i1, d2, d3⟩ => [.i i1, .d d2, .d d3]
def of4 : List Leaf → Option S4
  | [.i i1, .d d2, .d d3] => some ⟨i1, d2, d3⟩
  | _ => none
def ex4 (k : Kont) : X4 → Option D
  | .e0 i1 d2 d3 r4 => k .ret ((us 2 ((.ptr 0 [] k0_) :: (.ptr 1 [] k0_) :: (vb false) :: (vi i1) :: (us 21 ((vi i1) :: (.ptr 0 [0] (.slice 39)) :: (vk (.slice 39) (d2.at 0)) :: (vi (nI (d2.at 0).elems.length)) :: (vb (ltI i1 (nI (d2.at 0).elems.length))) :: (us 2 ((.ptr 0 [0] (.slice 39)) :: (vk (.slice 39) (d2.at 0)) :: (vi i1) :: (.cptr k1_ (ix (d2.at 0).elems i1.toNat)) :: (vk k1_ (ix (d2.at 0).elems i1.toNat)) :: (.ptr 1 [0] (.slice 39)) :: (vk (.slice 39) (d3.at 0)) :: (vi i1) :: (.cptr k1_ (ix (d3.at 0).elems i1.toNat)) :: (vk k1_ (ix (d3.at 0).elems i1.toNat)) :: (vk .bool r4) :: (vb (!r4.b)) :: []))))))) [(.var k0_ (vk k0_ d2)), (.var k0_ (vk k0_ d3))]
  | .e1 i1 d2 d3 => k (.exit 0) ((us 2 ((.ptr 0 [] k0_) :: (.ptr 1 [] k0_) :: (us 1 ((vi i1) :: (us 21 ((vi i1) :: (.ptr 0 [0] (.slice 39)) :: (vk (.slice 39) (d2.at 0)) :: (vi (nI (d2.at 0).elems.length)) :: (vb (ltI i1 (nI (d2.at 0).elems.length))) :: (us 14 [])))))))) [(.var k0_ (vk k0_ d2)), (.var k0_ (vk k0_ d3))]
def ps4 : List PV := ((up 2 ((.ptr 0 [] k0_) :: (.ptr 1 [] k0_) :: (up 1 ((.d (.int .i64) (.int .i64)) :: (up 40 []))))))
def qs4 : List PO := [q0_, q0_]
noncomputable def t (M : Nat) : List Ent := ⟨11, 11, 0, 4, sumS [2, 3, 5] ps4 qs4 [] of4 (st4 M) ex4 M⟩ :: []
theorem t_ok (M : Nat) : AllOk (e M) (tblOf (t M)) := AllOk.addS (n0 := 2) (lv := lv4) AllOk.nil (by kernel_rfl) rfl (by intro ls s h; unfold of4 at h; (repeat' split at h) <;> simp at h; subst h; rfl) (by intro s; kernel_rfl) (by intro s; kernel_rfl) (by intro s nx k; kernel_rfl)
def s (M : Nat) (p0 : D) (p1 : D) : Option D :=
  (cond (neI (nI (p0.at 0).elems.length) (nI (p1.at 0).elems.length)) (some (db false)) (cond (neI (p0.at 1).i (p1.at 1).i) (some (db false)) (cond (neI (p0.at 2).i (p1.at 2).i) (some (db false)) (goS (st4 M) M ⟨0, p0, p1⟩ fun x => match x with | .e0 i1 d2 d3 r4 => (some (db false)) | .e1 i1 d2 d3 => (some (db true))))))
theorem run (M : Nat) (p0 : D) (p1 : D) : callS (e M) (tblOf (t M)) 12 (.fn 11) [.d (.struct [25, 3, 3]) p0, .d (.struct [25, 3, 3]) p1] [] (fun v H => finish ty [4] v H) = s M p0 p1 := by kernel_rfl
def c : Con := { run := fun ds => match ds with | [p0, p1] => s FUEL p0 p1 | _ => none, plain := true }
theorem ok : ConOk (11, c) := mkC Tryz.f11 [(.struct [25, 3, 3]), (.struct [25, 3, 3])] [4] (by kernel_rfl) (by kernel_rfl) (by kernel_rfl) (by kernel_rfl) (allCons F29.ok allNil) allNil (t_ok FUEL) fun a => run FUEL a.1 a.2.1
end F11
namespace F13
def k0_ : K := (.struct [50, 3, 9, 3, 3, 56])
def cons : List (Nat × Con) := []
def exts : List (Nat × Ext) := []
def h : List (Nat × Nat × Hint) := [(13, 4, { live := [0, 1, 5] })]
noncomputable def e (M : Nat) : Env := env cons exts h M
structure S4 where
  (d1 d2 : D) (i3 : Int)
inductive X4 where
  | e0 (d1 d2 : D) (i3 : Int) (r4 : D)
  | e1 (d1 d2 : D) (i3 : Int)
def st4 (M : Nat) : S4 → (S4 → Option D) → (X4 → Option D) → Option D
  | ⟨d1, d2, i3⟩, rec, K => (cond (ltI i3 (nI d1.elems.length)) (cond (inb i3 d1.elems.length) (cond (inb i3 d2.elems.length) (bd (match D.eqv ty eqDepth (ix d1.elems i3.toNat) (ix d2.elems i3.toNat) (.struct [50, 3, 9, 3, 3, 56]) with | some z => some (.bool (!z)) | none => none) fun r4 => (cond r4.b (K (.e0 d1 d2 i3 r4)) (rec ⟨d1, d2, (ad .i64 i3 1)⟩))) none) none) (K (.e1 d1 d2 i3)))
def lv4 : S4 → List Leaf
  | ⟨d1, d2, i3⟩ => [.d d1, .d d2, .i i3]
def of4 : List Leaf → Option S4
  | [.d d1, .d d2, .i i3] => some ⟨d1, d2, i3⟩
  | _ => none
def ex4 (k : Kont) : X4 → Option D
  | .e0 d1 d2 i3 r4 => k .ret ((vk (.slice 58) d1) :: (vk (.slice 58) d2) :: (us 2 ((vb false) :: (vi i3) :: (us 5 ((vi i3) :: (vk (.slice 58) d1) :: (vi (nI d1.elems.length)) :: (vb (ltI i3 (nI d1.elems.length))) :: (us 2 ((vk (.slice 58) d1) :: (vi i3) :: (.cptr k0_ (ix d1.elems i3.toNat)) :: (vk k0_ (ix d1.elems i3.toNat)) :: (vk (.slice 58) d2) :: (vi i3) :: (.cptr k0_ (ix d2.elems i3.toNat)) :: (vk k0_ (ix d2.elems i3.toNat)) :: (vk .bool r4) :: []))))))) []
  | .e1 d1 d2 i3 => k (.exit 0) ((vk (.slice 58) d1) :: (vk (.slice 58) d2) :: (us 3 ((vi i3) :: (us 5 ((vi i3) :: (vk (.slice 58) d1) :: (vi (nI d1.elems.length)) :: (vb (ltI i3 (nI d1.elems.length))) :: (us 11 [])))))) []
def ps4 : List PV := ((.d (.slice 58) .x) :: (.d (.slice 58) .x) :: (up 3 ((.d (.int .i64) (.int .i64)) :: (up 20 []))))
def qs4 : List PO := []
noncomputable def t (M : Nat) : List Ent := ⟨13, 11, 0, 4, sumS [0, 1, 5] ps4 qs4 [] of4 (st4 M) ex4 M⟩ :: []
theorem t_ok (M : Nat) : AllOk (e M) (tblOf (t M)) := AllOk.addS (n0 := 0) (lv := lv4) AllOk.nil (by kernel_rfl) rfl (by intro ls s h; unfold of4 at h; (repeat' split at h) <;> simp at h; subst h; rfl) (by intro s; kernel_rfl) (by intro s; kernel_rfl) (by intro s nx k; kernel_rfl)
def s (M : Nat) (p0 : D) (p1 : D) : Option D :=
  (cond (neI (nI p0.elems.length) (nI p1.elems.length)) (some (db false)) (goS (st4 M) M ⟨p0, p1, 0⟩ fun x => match x with | .e0 d1 d2 i3 r4 => (some (db false)) | .e1 d1 d2 i3 => (some (db true))))
theorem run (M : Nat) (p0 : D) (p1 : D) : callS (e M) (tblOf (t M)) 12 (.fn 13) [.d (.slice 58) p0, .d (.slice 58) p1] [] (fun v H => finish ty [4] v H) = s M p0 p1 := by kernel_rfl
def c : Con := { run := fun ds => match ds with | [p0, p1] => s FUEL p0 p1 | _ => none, plain := true }
theorem ok : ConOk (13, c) := mkC Tryz.f13 [(.slice 58), (.slice 58)] [4] (by kernel_rfl) (by kernel_rfl) (by kernel_rfl) (by kernel_rfl) allNil allNil (t_ok FUEL) fun a => run FUEL a.1 a.2.1
end F13
namespace F3
def k0_ : K := (.struct [25, 3, 3])
def k1_ : K := (.struct [36, 3, 9, 39, 37])
def cons : List (Nat × Con) := [(6, F6.c), (7, F7.c), (8, F8.c), (9, F9.c), (10, F10.c), (11, F11.c), (12, F12.c), (13, F13.c)]
def exts : List (Nat × Ext) := []
def h : List (Nat × Nat × Hint) := [(3, 12, { live := [3, 5, 6, 7, 8, 9, 10, 11] })]
def q0_ : PO := (.var k0_ (.d k0_ .x))
noncomputable def e (M : Nat) : Env := env cons exts h M
structure S12 where
  (d5 d6 d7 d8 d9 : D) (i10 : Int) (d11 d12 : D)
inductive X12 where
  | e0 (d5 d6 d7 d8 d9 : D) (i10 : Int) (d11 d12 r13 : D)
  | e1 (d5 d6 d7 d8 d9 : D) (i10 : Int) (d11 d12 : D)
def st12 (M : Nat) : S12 → (S12 → Option D) → (X12 → Option D) → Option D
  | ⟨d5, d6, d7, d8, d9, i10, d11, d12⟩, rec, K => (cond (ltI i10 (nI d6.elems.length)) (cond (inb i10 d6.elems.length) (cond (inb i10 d8.elems.length) (bd (F10.s FUEL (ix d6.elems i10.toNat) (ix d8.elems i10.toNat)) fun r13 => (cond (!r13.b) (K (.e0 d5 d6 d7 d8 d9 i10 d11 d12 r13)) (rec ⟨d5, d6, d7, d8, d9, (ad .i64 i10 1), d11, d12⟩))) none) none) (K (.e1 d5 d6 d7 d8 d9 i10 d11 d12)))
def lv12 : S12 → List Leaf
  | ⟨d5, d6, d7, d8, d9, i10, d11, d12⟩ => [.d d5, .d d6, .d d7, .d d8, .d d9, .i i10, .d d11, .d d12]
def of12 : List Leaf → Option S12
  | [.d d5, .d d6, .d d7, .d d8, .d d9, .i i10, .d d11, .d d12] => some ⟨d5, d6, d7, d8, d9, i10, d11, d12⟩
  | _ => none
def ex12 (k : Kont) : X12 → Option D
  | .e0 d5 d6 d7 d8 d9 i10 d11 d12 r13 => k .ret ((us 2 ((vb false) :: (vk .bool d5) :: (us 1 ((.ptr 0 [] k0_) :: (vk (.slice 41) d6) :: (vk (.slice 58) d7) :: (.ptr 1 [] k0_) :: (vk (.slice 41) d8) :: (vk (.slice 58) d9) :: (vi i10) :: (us 27 ((vi i10) :: (vk (.slice 41) d6) :: (vi (nI d6.elems.length)) :: (vb (ltI i10 (nI d6.elems.length))) :: (us 2 ((vk (.slice 41) d6) :: (vi i10) :: (.cptr k1_ (ix d6.elems i10.toNat)) :: (vk k1_ (ix d6.elems i10.toNat)) :: (vk (.slice 41) d8) :: (vi i10) :: (.cptr k1_ (ix d8.elems i10.toNat)) :: (vk k1_ (ix d8.elems i10.toNat)) :: (vk .bool r13) :: (vb (!r13.b)) :: (us 12 [])))))))))) [(.var k0_ (vk k0_ d11)), (.var k0_ (vk k0_ d12))]
  | .e1 d5 d6 d7 d8 d9 i10 d11 d12 => k (.exit 0) ((us 3 ((vk .bool d5) :: (us 1 ((.ptr 0 [] k0_) :: (vk (.slice 41) d6) :: (vk (.slice 58) d7) :: (.ptr 1 [] k0_) :: (vk (.slice 41) d8) :: (vk (.slice 58) d9) :: (vi i10) :: (us 27 ((vi i10) :: (vk (.slice 41) d6) :: (vi (nI d6.elems.length)) :: (vb (ltI i10 (nI d6.elems.length))) :: (us 24 [])))))))) [(.var k0_ (vk k0_ d11)), (.var k0_ (vk k0_ d12))]
def ps12 : List PV := ((up 3 ((.d .bool .x) :: (up 1 ((.ptr 0 [] k0_) :: (.d (.slice 41) .x) :: (.d (.slice 58) .x) :: (.ptr 1 [] k0_) :: (.d (.slice 41) .x) :: (.d (.slice 58) .x) :: (.d (.int .i64) (.int .i64)) :: (up 55 []))))))
def qs12 : List PO := [q0_, q0_]
noncomputable def t (M : Nat) : List Ent := ⟨3, 11, 0, 12, sumS [3, 5, 6, 7, 8, 9, 10, 11] ps12 qs12 [] of12 (st12 M) ex12 M⟩ :: []
theorem t_ok (M : Nat) : AllOk (e M) (tblOf (t M)) := AllOk.addS (n0 := 2) (lv := lv12) AllOk.nil (by kernel_rfl) rfl (by intro ls s h; unfold of12 at h; (repeat' split at h) <;> simp at h; subst h; rfl) (by intro s; kernel_rfl) (by intro s; kernel_rfl) (by intro s nx k; kernel_rfl)
def s (M : Nat) (p0 : D) : Option D :=
  (bd (F6.s FUEL) fun r1 => (cond (!r1.b) (some (db false)) (bd (F7.s FUEL p0) fun r2 => (cond (!r2.b) (some r1) (bd (F8.s FUEL (da [(dl false []), (di 0), (di 0)]) p0) fun r3 => (bd (F9.s FUEL (da [(dl false []), (di 0), (di 0)]) p0) fun r4 => (cond (neI (nI (r3.at 1).elems.length) (nI (r4.at 1).elems.length)) (some (db false)) (goS (st12 M) M ⟨r1, (r3.at 1), (r3.at 2), (r4.at 1), (r4.at 2), 0, (r3.at 0), (r4.at 0)⟩ fun x => match x with | .e0 d5 d6 d7 d8 d9 i10 d11 d12 r13 => (some (db false)) | .e1 d5 d6 d7 d8 d9 i10 d11 d12 => (bdB d5 fun g14 => (cond g14 (bd (F12.s FUEL d11) fun r15 => (bd (F11.s FUEL r15 d12) fun r16 => (bdB r16 fun g17 => (cond g17 (bd (F13.s FUEL d7 d9) fun r18 => (some r18)) (some (db false)))))) (some (db false))))))))))))
theorem run (M : Nat) (p0 : D) : callS (e M) (tblOf (t M)) 12 (.fn 3) [.d (.slice 52) p0] [] (fun v H => finish ty [4] v H) = s M p0 := by kernel_rfl
def c : Con := { run := fun ds => match ds with | [p0] => s FUEL p0 | _ => none, plain := true }
theorem fun_at : Tryz.prog.funcs[3]? = some Tryz.f3 := by kernel_rfl
theorem params : Tryz.f3.params.toList.map ty = [(.slice 52)] := by kernel_rfl
theorem ok : ConOk (3, c) := mkC Tryz.f3 [(.slice 52)] [4] (by kernel_rfl) (by kernel_rfl) (by kernel_rfl) (by kernel_rfl) (allCons F6.ok (allCons F7.ok (allCons F8.ok (allCons F9.ok (allCons F10.ok (allCons F11.ok (allCons F12.ok (allCons F13.ok allNil)))))))) allNil (t_ok FUEL) fun a => run FUEL a.1
end F3
end Go.AM.SZ
