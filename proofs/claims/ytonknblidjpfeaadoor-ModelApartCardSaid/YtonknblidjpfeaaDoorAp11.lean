/- Part 11 of the proof: the abstract machine, what the functions compute, and plain laws over that. -/
import Derived.Test.YtonknblidjpfeaaDoorAp10
import Derived.ProofKit
import Derived.LaidMore
import Derived.OpenShut
import Derived.Stop.Joined
import Derived.PinnedBridge
import Derived.Lib.LaidU8
import Derived.SevenTiedAt
import Derived.SizedLaws
import Derived.Lib.RuneCountTail
set_option linter.all false
set_option linter.unusedSimpArgs false
set_option linter.unusedVariables false
set_option linter.unusedSectionVars false
namespace Go.AM.SD
open Go Go.AM Go.Proofs Go.RowKit
namespace F19
def cons : List (Nat × Con) := [(20, F20.c)]
def exts : List (Nat × Ext) := []
def h : List (Nat × Nat × Hint) := [(19, 4, { live := [2, 4, 7, 8, 13, 14, 15], rows := [(7, 56), (8, 38)], own := false, inpl := false })]
noncomputable def e (M : Nat) : Env := env cons exts h M
noncomputable def t19_0 (_ : Nat) : List Ent := []
theorem t19_0_ok (M : Nat) : AllOk (e M) (tblOf (t19_0 M)) := AllOk.nil
structure S4 where
  n1 : Nat
  n2 : Nat
  n3 : Nat
  n4 : Nat
  d5 : D
  i6 : Int
  i7 : Int
  d8 : D
  b9 : Bool
  l10 : (List D)
  i11 : Int
  i12 : Int
  b13 : Bool
  l14 : (List D)
  b15 : Bool
  l16 : (List D)
inductive X4 where
  | e0 (n1 : Nat) (n2 : Nat) (n3 : Nat) (n4 : Nat) (d5 : D) (i6 : Int) (i7 : Int) (d8 : D) (b9 : Bool) (l10 : (List D)) (i11 : Int) (i12 : Int) (b13 : Bool) (l14 : (List D)) (b15 : Bool) (l16 : (List D))
def st4 (M : Nat) : S4 → (S4 → Option D) → (X4 → Option D) → Option D
  | ⟨n1, n2, n3, n4, d5, i6, i7, d8, b9, l10, i11, i12, b13, l14, b15, l16⟩, rec, K => (cond (ltI i7 i6) (cond (inb i7 d5.elems.length) (bd (F20.s FUEL d8 (ix d5.elems i7.toNat)) fun r17 => (cond (mx (n2 + 1)) (cond (mx (n4 + (r17.at 2).elems.length)) (rec ⟨0, (n2 + 1), 0, (n4 + (r17.at 2).elems.length), d5, i6, (ad .i64 i7 1), (r17.at 0), b9, l10, i11, i12, (b13 || true), (ap ((l14.drop n1).take n2) [(r17.at 1)]), (b15 || (!(r17.at 2).elems.isEmpty)), (ap ((l16.drop n3).take n4) (r17.at 2).elems)⟩) none) none)) none) (K (.e0 n1 n2 n3 n4 d5 i6 i7 d8 b9 l10 i11 i12 b13 l14 b15 l16)))
def lv4 : S4 → List Leaf
  | ⟨n1, n2, n3, n4, d5, i6, i7, d8, b9, l10, i11, i12, b13, l14, b15, l16⟩ => [.n n1, .n n2, .n n3, .n n4, .d d5, .i i6, .i i7, .d d8, .b b9, .l l10, .i i11, .i i12, .b b13, .l l14, .b b15, .l l16]
def of4 : List Leaf → Option S4
  | [.n n1, .n n2, .n n3, .n n4, .d d5, .i i6, .i i7, .d d8, .b b9, .l l10, .i i11, .i i12, .b b13, .l l14, .b b15, .l l16] => some ⟨n1, n2, n3, n4, d5, i6, i7, d8, b9, l10, i11, i12, b13, l14, b15, l16⟩
  | _ => none
def ex4 (k : Kont) : X4 → Option D
  | .e0 n1 n2 n3 n4 d5 i6 i7 d8 b9 l10 i11 i12 b13 l14 b15 l16 => k (.exit 0) (us 2 ((.ptr 0 [] (.struct [49, 3, 3])) :: (us 1 ((.ptr 1 [] (.struct [49, 3, 3])) :: (us 2 ((.sref 2 n1 n2) :: ((.sref 3 n3 n4) :: (us 4 ((.d (.slice 47) d5) :: ((.d (.int .i64) (di i6)) :: ((.d (.int .i64) (di i7)) :: ((.d .bool (db (ltI i7 i6))) :: (us 20 []))))))))))))) [(.var (.struct [49, 3, 3]) (.d (.struct [49, 3, 3]) d8)), (.var (.struct [49, 3, 3]) (.d (.struct [49, 3, 3]) (da [(dl b9 l10), (di i11), (di i12)]))), (.row 56 true b13 l14), (.row 38 true b15 l16)]
def ps4 : List PV := (up 2 ((.ptr 0 [] (.struct [49, 3, 3])) :: (up 1 ((.ptr 1 [] (.struct [49, 3, 3])) :: (up 2 ((.sref 2) :: ((.sref 3) :: (up 4 ((.d (.slice 47) .x) :: ((.d (.int .i64) (.int .i64)) :: ((.d (.int .i64) (.int .i64)) :: (up 21 []))))))))))))
def qs4 : List PO := [(.var (.struct [49, 3, 3]) (.d (.struct [49, 3, 3]) .x)), (.var (.struct [49, 3, 3]) (.d (.struct [49, 3, 3]) (.agg [.slice, (.int .i64), (.int .i64)]))), (.row 56 true), (.row 38 true)]
noncomputable def sum4 (M : Nat) : Sum := sumS [2, 4, 7, 8, 13, 14, 15] ps4 qs4 [(7, 2), (8, 3)] of4 (st4 M) ex4 M
theorem sok4 (M : Nat) : SumOk (loopRd (e M) 19 4) (e M) (call (e M) 11) 19 0 (loopAt (e M) 19 4) (sum4 M) :=
  sumOk_st (T := tblOf (t19_0 M)) (n0 := 4) (lv := lv4) (t19_0_ok M) (by kernel_rfl) rfl (by intro ls s h; unfold of4 at h; (repeat' split at h) <;> simp at h; subst h; rfl) (by intro s; kernel_rfl) (by intro s; kernel_rfl) (by intro s nx k; kernel_rfl)
noncomputable def t19_1 (M : Nat) : List Ent := ⟨19, 11, 0, 4, sum4 M⟩ :: t19_0 M
theorem t19_1_ok (M : Nat) : AllOk (e M) (tblOf (t19_1 M)) := (t19_0_ok M).add ⟨19, 11, 0, 4, sum4 M⟩ (by kernel_rfl) (sok4 M)
def s (M : Nat) (p0 : D) (p1 : D) : Option D :=
  (goS (st4 M) M ⟨0, 0, 0, 0, p1, (nI p1.elems.length), 0, p0, false, [], 0, 0, false, [], false, []⟩ fun x => match x with | .e0 n1 n2 n3 n4 d5 i6 i7 d8 b9 l10 i11 i12 b13 l14 b15 l16 => (some (D.tup [d8, (dl b13 ((l14.drop n1).take n2)), (dl b15 ((l16.drop n3).take n4))])))
theorem run (M : Nat) (p0 : D) (p1 : D) : callS (e M) (tblOf (t19_1 M)) 12 (.fn 19) [.d (.struct [49, 3, 3]) p0, .d (.slice 47) p1] [] (fun v H => finish ty [51, 52, 22] v H) = s M p0 p1 := by kernel_rfl
noncomputable abbrev t (M : Nat) : List Ent := t19_1 M
theorem t_ok (M : Nat) : AllOk (e M) (tblOf (t M)) := t19_1_ok M
def c : Con := { run := fun ds => match ds with | [p0, p1] => s FUEL p0 p1 | _ => none, fresh := false, plain := false }
theorem fun_at : Tryd.prog.funcs[19]? = some Tryd.f19 := by kernel_rfl
theorem params : Tryd.f19.params.toList.map ty = [(.struct [49, 3, 3]), (.slice 47)] := by kernel_rfl
theorem results : Tryd.f19.resultTypes.toList = [51, 52, 22] := by kernel_rfl
theorem ok : ConOk (19, c) := by
  intro fn hfn
  obtain rfl : Tryd.f19 = fn := Option.some.inj (fun_at.symm.trans hfn)
  refine contract_flat (n := 20) hgl (fun h => by simp at h) (fun ds r hh0 hr => ?_)
  rw [params] at hh0
  obtain ⟨p0, ds0, rfl, h0, hh1⟩ := hass_cons hh0
  obtain ⟨p1, ds1, rfl, h1, hh2⟩ := hass_cons hh1
  obtain rfl := hass_nil hh2
  refine ⟨e FUEL, DEPTH, tblOf (t FUEL), envOk (allCons F20.ok allNil) allNil, rfl, t_ok FUEL, ?_⟩
  rw [params, results]
  exact (run FUEL p0 p1).trans hr
end F19
namespace F45
def cons : List (Nat × Con) := []
def exts : List (Nat × Ext) := []
def h : List (Nat × Nat × Hint) := []
noncomputable def e (M : Nat) : Env := env cons exts h M
noncomputable def t45_0 (_ : Nat) : List Ent := []
theorem t45_0_ok (M : Nat) : AllOk (e M) (tblOf (t45_0 M)) := AllOk.nil
def s (M : Nat) (p0 : Int) (p1 : Int) : Option D :=
  (cond (geI p0 0) (some (db (leI p0 p1))) (some (db false)))
theorem run (M : Nat) (p0 : Int) (p1 : Int) : callS (e M) (tblOf (t45_0 M)) 12 (.fn 45) [.d (.int .i64) (di p0), .d (.int .i64) (di p1)] [] (fun v H => finish ty [4] v H) = s M p0 p1 := by kernel_rfl
noncomputable abbrev t (M : Nat) : List Ent := t45_0 M
theorem t_ok (M : Nat) : AllOk (e M) (tblOf (t M)) := t45_0_ok M
def c : Con := { run := fun ds => match ds with | [p0, p1] => s FUEL p0.i p1.i | _ => none, fresh := false, plain := true }
theorem fun_at : Tryd.prog.funcs[45]? = some Tryd.f45 := by kernel_rfl
theorem params : Tryd.f45.params.toList.map ty = [(.int .i64), (.int .i64)] := by kernel_rfl
theorem results : Tryd.f45.resultTypes.toList = [4] := by kernel_rfl
theorem flat : Tryd.f45.resultTypes.toList.all (fun t => K.flat ty 20 (ty t)) = true := by kernel_rfl
theorem ok : ConOk (45, c) := by
  intro fn hfn
  obtain rfl : Tryd.f45 = fn := Option.some.inj (fun_at.symm.trans hfn)
  refine contract_flat (n := 20) hgl (fun _ => flat) (fun ds r hh0 hr => ?_)
  rw [params] at hh0
  obtain ⟨p0, ds0, rfl, h0, hh1⟩ := hass_cons hh0
  obtain ⟨p0, rfl⟩ := has_int h0
  obtain ⟨p1, ds1, rfl, h1, hh2⟩ := hass_cons hh1
  obtain ⟨p1, rfl⟩ := has_int h1
  obtain rfl := hass_nil hh2
  refine ⟨e FUEL, DEPTH, tblOf (t FUEL), envOk allNil allNil, rfl, t_ok FUEL, ?_⟩
  rw [params, results]
  exact (run FUEL p0 p1).trans hr
end F45
namespace F46
def cons : List (Nat × Con) := [(49, F49.c), (76, F76.c), (77, F77.c)]
def exts : List (Nat × Ext) := []
def h : List (Nat × Nat × Hint) := [(46, 6, { live := [1, 50, 51, 52], rows := [], own := false, inpl := false })]
noncomputable def e (M : Nat) : Env := env cons exts h M
noncomputable def t46_0 (_ : Nat) : List Ent := []
theorem t46_0_ok (M : Nat) : AllOk (e M) (tblOf (t46_0 M)) := AllOk.nil
structure S6 where
  d3 : D
  i4 : Int
  i5 : Int
  d6 : D
inductive X6 where
  | e0 (d3 : D) (i4 : Int) (i5 : Int) (d6 : D) (r7 : D)
  | e1 (d3 : D) (i4 : Int) (i5 : Int) (d6 : D) (r7 : D) (r8 : D)
  | e2 (d3 : D) (i4 : Int) (i5 : Int) (d6 : D)
def st6 (M : Nat) : S6 → (S6 → Option D) → (X6 → Option D) → Option D
  | ⟨d3, i4, i5, d6⟩, rec, K => (cond (ltI i5 i4) (cond (inb i5 d3.elems.length) (bd (F49.s FUEL (ix d3.elems i5.toNat).s) fun r7 => (cond (!r7.b) (K (.e0 d3 i4 i5 d6 r7)) (cond (gtI i5 0) (cond (inb (sb .i64 i5 1) (d6.at 5).elems.length) (bd (F77.s FUEL (ix (d6.at 5).elems (sb .i64 i5 1).toNat).s (ix d3.elems i5.toNat).s) fun r8 => (cond (!r8.b) (K (.e1 d3 i4 i5 d6 r7 r8)) (rec ⟨d3, i4, (ad .i64 i5 1), d6⟩))) none) (rec ⟨d3, i4, (ad .i64 i5 1), d6⟩)))) none) (K (.e2 d3 i4 i5 d6)))
def lv6 : S6 → List Leaf
  | ⟨d3, i4, i5, d6⟩ => [.d d3, .i i4, .i i5, .d d6]
def of6 : List Leaf → Option S6
  | [.d d3, .i i4, .i i5, .d d6] => some ⟨d3, i4, i5, d6⟩
  | _ => none
def ex6 (k : Kont) : X6 → Option D
  | .e0 d3 i4 i5 d6 r7 => k .ret (us 1 ((.ptr 0 [] (.struct [3, 9, 9, 4, 3, 40])) :: ((.d .bool (db false)) :: ((.d (.int .i64) (di i5)) :: ((.d .str (ix d3.elems i5.toNat)) :: (us 45 ((.d (.slice 9) d3) :: ((.d (.int .i64) (di i4)) :: ((.d (.int .i64) (di i5)) :: ((.d .bool (db (ltI i5 i4))) :: ((.d (.int .i64) (di i5)) :: ((.cptr .str (ix d3.elems i5.toNat)) :: ((.d .str (ix d3.elems i5.toNat)) :: ((.d .str (ix d3.elems i5.toNat)) :: ((.d .bool r7) :: ((.d .bool (db (!r7.b))) :: ((.d .bool (db true)) :: ((.tup []) :: ((.tup []) :: ((.tup []) :: ((.tup []) :: ((.tup []) :: ((.tup []) :: ((.tup []) :: ((.tup []) :: ((.tup []) :: ((.tup []) :: ((.tup []) :: ((.tup []) :: ((.tup []) :: ((.d .bool (db true)) :: (us 1 [])))))))))))))))))))))))))))))))) [(.var (.struct [3, 9, 9, 4, 3, 40]) (.d (.struct [3, 9, 9, 4, 3, 40]) d6))]
  | .e1 d3 i4 i5 d6 r7 r8 => k .ret (us 1 ((.ptr 0 [] (.struct [3, 9, 9, 4, 3, 40])) :: ((.d .bool (db false)) :: ((.d (.int .i64) (di i5)) :: ((.d .str (ix d3.elems i5.toNat)) :: (us 45 ((.d (.slice 9) d3) :: ((.d (.int .i64) (di i4)) :: ((.d (.int .i64) (di i5)) :: ((.d .bool (db (ltI i5 i4))) :: ((.d (.int .i64) (di i5)) :: ((.cptr .str (ix d3.elems i5.toNat)) :: ((.d .str (ix d3.elems i5.toNat)) :: ((.d .str (ix d3.elems i5.toNat)) :: ((.d .bool r7) :: ((.d .bool (db (!r7.b))) :: ((.d .bool (db false)) :: ((.d (.int .i64) (di i5)) :: ((.d .bool (db (gtI i5 0))) :: ((.d .bool (db true)) :: ((.ptr 0 [5] (.slice 9)) :: ((.d (.slice 9) (d6.at 5)) :: ((.d (.int .i64) (di i5)) :: ((.d (.int .i64) (di (sb .i64 i5 1))) :: ((.cptr .str (ix (d6.at 5).elems (sb .i64 i5 1).toNat)) :: ((.d .str (ix (d6.at 5).elems (sb .i64 i5 1).toNat)) :: ((.d .str (ix d3.elems i5.toNat)) :: ((.d .bool r8) :: ((.d .bool (db (!r8.b))) :: ((.d .bool (db (!r8.b))) :: ((.d .bool (db (!r8.b))) :: (us 1 [])))))))))))))))))))))))))))))))) [(.var (.struct [3, 9, 9, 4, 3, 40]) (.d (.struct [3, 9, 9, 4, 3, 40]) d6))]
  | .e2 d3 i4 i5 d6 => k (.exit 0) (us 1 ((.ptr 0 [] (.struct [3, 9, 9, 4, 3, 40])) :: (us 48 ((.d (.slice 9) d3) :: ((.d (.int .i64) (di i4)) :: ((.d (.int .i64) (di i5)) :: ((.d .bool (db (ltI i5 i4))) :: (us 22 [])))))))) [(.var (.struct [3, 9, 9, 4, 3, 40]) (.d (.struct [3, 9, 9, 4, 3, 40]) d6))]
def ps6 : List PV := (up 1 ((.ptr 0 [] (.struct [3, 9, 9, 4, 3, 40])) :: (up 48 ((.d (.slice 9) .x) :: ((.d (.int .i64) (.int .i64)) :: ((.d (.int .i64) (.int .i64)) :: (up 23 [])))))))
def qs6 : List PO := [(.var (.struct [3, 9, 9, 4, 3, 40]) (.d (.struct [3, 9, 9, 4, 3, 40]) .x))]
noncomputable def sum6 (M : Nat) : Sum := sumS [1, 50, 51, 52] ps6 qs6 [] of6 (st6 M) ex6 M
theorem sok6 (M : Nat) : SumOk (loopRd (e M) 46 6) (e M) (call (e M) 11) 46 0 (loopAt (e M) 46 6) (sum6 M) :=
  sumOk_st (T := tblOf (t46_0 M)) (n0 := 1) (lv := lv6) (t46_0_ok M) (by kernel_rfl) rfl (by intro ls s h; unfold of6 at h; (repeat' split at h) <;> simp at h; subst h; rfl) (by intro s; kernel_rfl) (by intro s; kernel_rfl) (by intro s nx k; kernel_rfl)
noncomputable def t46_1 (M : Nat) : List Ent := ⟨46, 11, 0, 6, sum6 M⟩ :: t46_0 M
theorem t46_1_ok (M : Nat) : AllOk (e M) (tblOf (t46_1 M)) := (t46_0_ok M).add ⟨46, 11, 0, 6, sum6 M⟩ (by kernel_rfl) (sok6 M)
def s (M : Nat) (p0 : D) : Option D :=
  (bd (F76.s FUEL (p0.at 0).i) fun r1 => (cond (!r1.b) (some (db false)) (bd (F49.s FUEL (p0.at 1).s) fun r2 => (cond (!r2.b) (some (db false)) (cond (gtI (nI (p0.at 2).s.size) 600) (some (db false)) (cond (ltI (p0.at 4).i 0) (some (db false)) (cond (gtI (p0.at 4).i 1099511627776) (some (db false)) (cond (gtI (nI (p0.at 5).elems.length) 4) (some (db false)) (cond (!(p0.at 3).b) (cond (eqI (p0.at 4).i 0) (some (db (eqI (nI (p0.at 5).elems.length) 0))) (some (db false))) (goS (st6 M) M ⟨(p0.at 5), (nI (p0.at 5).elems.length), 0, p0⟩ fun x => match x with | .e0 d3 i4 i5 d6 r7 => (some (db false)) | .e1 d3 i4 i5 d6 r7 r8 => (some (db false)) | .e2 d3 i4 i5 d6 => (some (db true))))))))))))
theorem run (M : Nat) (p0 : D) : callS (e M) (tblOf (t46_1 M)) 12 (.fn 46) [.d (.struct [3, 9, 9, 4, 3, 40]) p0] [] (fun v H => finish ty [4] v H) = s M p0 := by kernel_rfl
noncomputable abbrev t (M : Nat) : List Ent := t46_1 M
theorem t_ok (M : Nat) : AllOk (e M) (tblOf (t M)) := t46_1_ok M
def c : Con := { run := fun ds => match ds with | [p0] => s FUEL p0 | _ => none, fresh := false, plain := true }
theorem fun_at : Tryd.prog.funcs[46]? = some Tryd.f46 := by kernel_rfl
theorem params : Tryd.f46.params.toList.map ty = [(.struct [3, 9, 9, 4, 3, 40])] := by kernel_rfl
theorem results : Tryd.f46.resultTypes.toList = [4] := by kernel_rfl
theorem flat : Tryd.f46.resultTypes.toList.all (fun t => K.flat ty 20 (ty t)) = true := by kernel_rfl
theorem ok : ConOk (46, c) := by
  intro fn hfn
  obtain rfl : Tryd.f46 = fn := Option.some.inj (fun_at.symm.trans hfn)
  refine contract_flat (n := 20) hgl (fun _ => flat) (fun ds r hh0 hr => ?_)
  rw [params] at hh0
  obtain ⟨p0, ds0, rfl, h0, hh1⟩ := hass_cons hh0
  obtain rfl := hass_nil hh1
  refine ⟨e FUEL, DEPTH, tblOf (t FUEL), envOk (allCons F49.ok (allCons F76.ok (allCons F77.ok allNil))) allNil, rfl, t_ok FUEL, ?_⟩
  rw [params, results]
  exact (run FUEL p0).trans hr
end F46
namespace F27
def cons : List (Nat × Con) := [(21, F21.c), (45, F45.c), (46, F46.c)]
def exts : List (Nat × Ext) := []
def h : List (Nat × Nat × Hint) := [(27, 4, { live := [1, 22, 23, 24], rows := [], own := false, inpl := false })]
noncomputable def e (M : Nat) : Env := env cons exts h M
noncomputable def t27_0 (_ : Nat) : List Ent := []
theorem t27_0_ok (M : Nat) : AllOk (e M) (tblOf (t27_0 M)) := AllOk.nil
structure S4 where
  d3 : D
  i4 : Int
  i5 : Int
  d6 : D
inductive X4 where
  | e0 (d3 : D) (i4 : Int) (i5 : Int) (d6 : D) (r7 : D)
  | e1 (d3 : D) (i4 : Int) (i5 : Int) (d6 : D) (r7 : D)
  | e2 (d3 : D) (i4 : Int) (i5 : Int) (d6 : D) (r7 : D) (r8 : D)
  | e3 (d3 : D) (i4 : Int) (i5 : Int) (d6 : D) (r7 : D) (r8 : D)
  | e4 (d3 : D) (i4 : Int) (i5 : Int) (d6 : D)
def st4 (M : Nat) : S4 → (S4 → Option D) → (X4 → Option D) → Option D
  | ⟨d3, i4, i5, d6⟩, rec, K => (cond (ltI i5 i4) (cond (inb i5 d3.elems.length) (bd (F46.s FUEL (ix d3.elems i5.toNat)) fun r7 => (cond (!r7.b) (K (.e0 d3 i4 i5 d6 r7)) (cond (gtI ((ix d3.elems i5.toNat).at 0).i (d6.at 1).i) (K (.e1 d3 i4 i5 d6 r7)) (bd (F21.s FUEL d6 ((ix d3.elems i5.toNat).at 1).s) fun r8 => (cond (neI r8.i i5) (K (.e2 d3 i4 i5 d6 r7 r8)) (cond (gtI i5 0) (cond (inb (sb .i64 i5 1) (d6.at 0).elems.length) (cond (geI ((ix (d6.at 0).elems (sb .i64 i5 1).toNat).at 0).i ((ix d3.elems i5.toNat).at 0).i) (K (.e3 d3 i4 i5 d6 r7 r8)) (rec ⟨d3, i4, (ad .i64 i5 1), d6⟩)) none) (rec ⟨d3, i4, (ad .i64 i5 1), d6⟩))))))) none) (K (.e4 d3 i4 i5 d6)))
def lv4 : S4 → List Leaf
  | ⟨d3, i4, i5, d6⟩ => [.d d3, .i i4, .i i5, .d d6]
def of4 : List Leaf → Option S4
  | [.d d3, .i i4, .i i5, .d d6] => some ⟨d3, i4, i5, d6⟩
  | _ => none
def ex4 (k : Kont) : X4 → Option D
  | .e0 d3 i4 i5 d6 r7 => k .ret (us 1 ((.ptr 0 [] (.struct [49, 3, 3])) :: ((.d .bool (db false)) :: ((.d (.int .i64) (di i5)) :: ((.ptr 1 [] (.struct [3, 9, 9, 4, 3, 40])) :: (us 17 ((.d (.slice 42) d3) :: ((.d (.int .i64) (di i4)) :: ((.d (.int .i64) (di i5)) :: ((.d .bool (db (ltI i5 i4))) :: ((.d (.int .i64) (di i5)) :: ((.cptr (.struct [3, 9, 9, 4, 3, 40]) (ix d3.elems i5.toNat)) :: ((.d (.struct [3, 9, 9, 4, 3, 40]) (ix d3.elems i5.toNat)) :: ((.d (.struct [3, 9, 9, 4, 3, 40]) (ix d3.elems i5.toNat)) :: ((.d .bool r7) :: ((.d .bool (db (!r7.b))) :: ((.d .bool (db true)) :: ((.tup []) :: ((.tup []) :: ((.tup []) :: ((.tup []) :: ((.tup []) :: ((.d .bool (db true)) :: ((.d .bool (db true)) :: ((.tup []) :: ((.tup []) :: ((.tup []) :: ((.tup []) :: ((.tup []) :: ((.tup []) :: ((.d .bool (db true)) :: ((.d .bool (db true)) :: ((.tup []) :: ((.tup []) :: ((.tup []) :: ((.tup []) :: ((.tup []) :: ((.tup []) :: ((.tup []) :: ((.tup []) :: ((.tup []) :: ((.tup []) :: ((.tup []) :: ((.tup []) :: ((.tup []) :: ((.tup []) :: ((.d .bool (db true)) :: (us 1 [])))))))))))))))))))))))))))))))))))))))))))))))) [(.var (.struct [49, 3, 3]) (.d (.struct [49, 3, 3]) d6)), (.var (.struct [3, 9, 9, 4, 3, 40]) (.d (.struct [3, 9, 9, 4, 3, 40]) (ix d3.elems i5.toNat)))]
  | .e1 d3 i4 i5 d6 r7 => k .ret (us 1 ((.ptr 0 [] (.struct [49, 3, 3])) :: ((.d .bool (db false)) :: ((.d (.int .i64) (di i5)) :: ((.ptr 1 [] (.struct [3, 9, 9, 4, 3, 40])) :: (us 17 ((.d (.slice 42) d3) :: ((.d (.int .i64) (di i4)) :: ((.d (.int .i64) (di i5)) :: ((.d .bool (db (ltI i5 i4))) :: ((.d (.int .i64) (di i5)) :: ((.cptr (.struct [3, 9, 9, 4, 3, 40]) (ix d3.elems i5.toNat)) :: ((.d (.struct [3, 9, 9, 4, 3, 40]) (ix d3.elems i5.toNat)) :: ((.d (.struct [3, 9, 9, 4, 3, 40]) (ix d3.elems i5.toNat)) :: ((.d .bool r7) :: ((.d .bool (db (!r7.b))) :: ((.d .bool (db false)) :: ((.ptr 1 [0] (.int .i64)) :: ((.d (.int .i64) ((ix d3.elems i5.toNat).at 0)) :: ((.ptr 0 [1] (.int .i64)) :: ((.d (.int .i64) (d6.at 1)) :: ((.d .bool (db (gtI ((ix d3.elems i5.toNat).at 0).i (d6.at 1).i))) :: ((.d .bool (db (gtI ((ix d3.elems i5.toNat).at 0).i (d6.at 1).i))) :: ((.d .bool (db true)) :: ((.tup []) :: ((.tup []) :: ((.tup []) :: ((.tup []) :: ((.tup []) :: ((.tup []) :: ((.d .bool (db true)) :: ((.d .bool (db true)) :: ((.tup []) :: ((.tup []) :: ((.tup []) :: ((.tup []) :: ((.tup []) :: ((.tup []) :: ((.tup []) :: ((.tup []) :: ((.tup []) :: ((.tup []) :: ((.tup []) :: ((.tup []) :: ((.tup []) :: ((.tup []) :: ((.d .bool (db true)) :: (us 1 [])))))))))))))))))))))))))))))))))))))))))))))))) [(.var (.struct [49, 3, 3]) (.d (.struct [49, 3, 3]) d6)), (.var (.struct [3, 9, 9, 4, 3, 40]) (.d (.struct [3, 9, 9, 4, 3, 40]) (ix d3.elems i5.toNat)))]
  | .e2 d3 i4 i5 d6 r7 r8 => k .ret (us 1 ((.ptr 0 [] (.struct [49, 3, 3])) :: ((.d .bool (db false)) :: ((.d (.int .i64) (di i5)) :: ((.ptr 1 [] (.struct [3, 9, 9, 4, 3, 40])) :: (us 17 ((.d (.slice 42) d3) :: ((.d (.int .i64) (di i4)) :: ((.d (.int .i64) (di i5)) :: ((.d .bool (db (ltI i5 i4))) :: ((.d (.int .i64) (di i5)) :: ((.cptr (.struct [3, 9, 9, 4, 3, 40]) (ix d3.elems i5.toNat)) :: ((.d (.struct [3, 9, 9, 4, 3, 40]) (ix d3.elems i5.toNat)) :: ((.d (.struct [3, 9, 9, 4, 3, 40]) (ix d3.elems i5.toNat)) :: ((.d .bool r7) :: ((.d .bool (db (!r7.b))) :: ((.d .bool (db false)) :: ((.ptr 1 [0] (.int .i64)) :: ((.d (.int .i64) ((ix d3.elems i5.toNat).at 0)) :: ((.ptr 0 [1] (.int .i64)) :: ((.d (.int .i64) (d6.at 1)) :: ((.d .bool (db (gtI ((ix d3.elems i5.toNat).at 0).i (d6.at 1).i))) :: ((.d .bool (db (gtI ((ix d3.elems i5.toNat).at 0).i (d6.at 1).i))) :: ((.d .bool (db false)) :: ((.d (.struct [49, 3, 3]) d6) :: ((.ptr 1 [1] .str) :: ((.d .str ((ix d3.elems i5.toNat).at 1)) :: ((.d (.int .i64) r8) :: ((.d (.int .i64) (di i5)) :: ((.d .bool (db (neI r8.i i5))) :: ((.d .bool (db (neI r8.i i5))) :: ((.d .bool (db true)) :: ((.tup []) :: ((.tup []) :: ((.tup []) :: ((.tup []) :: ((.tup []) :: ((.tup []) :: ((.tup []) :: ((.tup []) :: ((.tup []) :: ((.tup []) :: ((.tup []) :: ((.tup []) :: ((.tup []) :: ((.tup []) :: ((.d .bool (db true)) :: (us 1 [])))))))))))))))))))))))))))))))))))))))))))))))) [(.var (.struct [49, 3, 3]) (.d (.struct [49, 3, 3]) d6)), (.var (.struct [3, 9, 9, 4, 3, 40]) (.d (.struct [3, 9, 9, 4, 3, 40]) (ix d3.elems i5.toNat)))]
  | .e3 d3 i4 i5 d6 r7 r8 => k .ret (us 1 ((.ptr 0 [] (.struct [49, 3, 3])) :: ((.d .bool (db false)) :: ((.d (.int .i64) (di i5)) :: ((.ptr 1 [] (.struct [3, 9, 9, 4, 3, 40])) :: (us 17 ((.d (.slice 42) d3) :: ((.d (.int .i64) (di i4)) :: ((.d (.int .i64) (di i5)) :: ((.d .bool (db (ltI i5 i4))) :: ((.d (.int .i64) (di i5)) :: ((.cptr (.struct [3, 9, 9, 4, 3, 40]) (ix d3.elems i5.toNat)) :: ((.d (.struct [3, 9, 9, 4, 3, 40]) (ix d3.elems i5.toNat)) :: ((.d (.struct [3, 9, 9, 4, 3, 40]) (ix d3.elems i5.toNat)) :: ((.d .bool r7) :: ((.d .bool (db (!r7.b))) :: ((.d .bool (db false)) :: ((.ptr 1 [0] (.int .i64)) :: ((.d (.int .i64) ((ix d3.elems i5.toNat).at 0)) :: ((.ptr 0 [1] (.int .i64)) :: ((.d (.int .i64) (d6.at 1)) :: ((.d .bool (db (gtI ((ix d3.elems i5.toNat).at 0).i (d6.at 1).i))) :: ((.d .bool (db (gtI ((ix d3.elems i5.toNat).at 0).i (d6.at 1).i))) :: ((.d .bool (db false)) :: ((.d (.struct [49, 3, 3]) d6) :: ((.ptr 1 [1] .str) :: ((.d .str ((ix d3.elems i5.toNat).at 1)) :: ((.d (.int .i64) r8) :: ((.d (.int .i64) (di i5)) :: ((.d .bool (db (neI r8.i i5))) :: ((.d .bool (db (neI r8.i i5))) :: ((.d .bool (db false)) :: ((.d (.int .i64) (di i5)) :: ((.d .bool (db (gtI i5 0))) :: ((.d .bool (db true)) :: ((.ptr 0 [0] (.slice 42)) :: ((.d (.slice 42) (d6.at 0)) :: ((.d (.int .i64) (di i5)) :: ((.d (.int .i64) (di (sb .i64 i5 1))) :: ((.cptr (.struct [3, 9, 9, 4, 3, 40]) (ix (d6.at 0).elems (sb .i64 i5 1).toNat)) :: ((.cptr (.int .i64) ((ix (d6.at 0).elems (sb .i64 i5 1).toNat).at 0)) :: ((.d (.int .i64) ((ix (d6.at 0).elems (sb .i64 i5 1).toNat).at 0)) :: ((.ptr 1 [0] (.int .i64)) :: ((.d (.int .i64) ((ix d3.elems i5.toNat).at 0)) :: ((.d .bool (db (geI ((ix (d6.at 0).elems (sb .i64 i5 1).toNat).at 0).i ((ix d3.elems i5.toNat).at 0).i))) :: ((.d .bool (db (geI ((ix (d6.at 0).elems (sb .i64 i5 1).toNat).at 0).i ((ix d3.elems i5.toNat).at 0).i))) :: ((.d .bool (db (geI ((ix (d6.at 0).elems (sb .i64 i5 1).toNat).at 0).i ((ix d3.elems i5.toNat).at 0).i))) :: (us 1 [])))))))))))))))))))))))))))))))))))))))))))))))) [(.var (.struct [49, 3, 3]) (.d (.struct [49, 3, 3]) d6)), (.var (.struct [3, 9, 9, 4, 3, 40]) (.d (.struct [3, 9, 9, 4, 3, 40]) (ix d3.elems i5.toNat)))]
  | .e4 d3 i4 i5 d6 => k (.exit 0) (us 1 ((.ptr 0 [] (.struct [49, 3, 3])) :: (us 20 ((.d (.slice 42) d3) :: ((.d (.int .i64) (di i4)) :: ((.d (.int .i64) (di i5)) :: ((.d .bool (db (ltI i5 i4))) :: (us 38 [])))))))) [(.var (.struct [49, 3, 3]) (.d (.struct [49, 3, 3]) d6))]
def ps4 : List PV := (up 1 ((.ptr 0 [] (.struct [49, 3, 3])) :: (up 20 ((.d (.slice 42) .x) :: ((.d (.int .i64) (.int .i64)) :: ((.d (.int .i64) (.int .i64)) :: (up 39 [])))))))
def qs4 : List PO := [(.var (.struct [49, 3, 3]) (.d (.struct [49, 3, 3]) .x))]
noncomputable def sum4 (M : Nat) : Sum := sumS [1, 22, 23, 24] ps4 qs4 [] of4 (st4 M) ex4 M
theorem sok4 (M : Nat) : SumOk (loopRd (e M) 27 4) (e M) (call (e M) 11) 27 0 (loopAt (e M) 27 4) (sum4 M) :=
  sumOk_st (T := tblOf (t27_0 M)) (n0 := 1) (lv := lv4) (t27_0_ok M) (by kernel_rfl) rfl (by intro ls s h; unfold of4 at h; (repeat' split at h) <;> simp at h; subst h; rfl) (by intro s; kernel_rfl) (by intro s; kernel_rfl) (by intro s nx k; kernel_rfl)
noncomputable def t27_1 (M : Nat) : List Ent := ⟨27, 11, 0, 4, sum4 M⟩ :: t27_0 M
theorem t27_1_ok (M : Nat) : AllOk (e M) (tblOf (t27_1 M)) := (t27_0_ok M).add ⟨27, 11, 0, 4, sum4 M⟩ (by kernel_rfl) (sok4 M)
def s (M : Nat) (p0 : D) : Option D :=
  (cond (gtI (nI (p0.at 0).elems.length) 12) (some (db false)) (bd (F45.s FUEL (p0.at 1).i 1099511627776) fun r1 => (cond (!r1.b) (some (db false)) (bd (F45.s FUEL (p0.at 2).i 1099511627776) fun r2 => (cond (!r2.b) (some (db false)) (goS (st4 M) M ⟨(p0.at 0), (nI (p0.at 0).elems.length), 0, p0⟩ fun x => match x with | .e0 d3 i4 i5 d6 r7 => (some (db false)) | .e1 d3 i4 i5 d6 r7 => (some (db false)) | .e2 d3 i4 i5 d6 r7 r8 => (some (db false)) | .e3 d3 i4 i5 d6 r7 r8 => (some (db false)) | .e4 d3 i4 i5 d6 => (some (db true))))))))
theorem run (M : Nat) (p0 : D) : callS (e M) (tblOf (t27_1 M)) 12 (.fn 27) [.d (.struct [49, 3, 3]) p0] [] (fun v H => finish ty [4] v H) = s M p0 := by kernel_rfl
noncomputable abbrev t (M : Nat) : List Ent := t27_1 M
theorem t_ok (M : Nat) : AllOk (e M) (tblOf (t M)) := t27_1_ok M
def c : Con := { run := fun ds => match ds with | [p0] => s FUEL p0 | _ => none, fresh := false, plain := true }
theorem fun_at : Tryd.prog.funcs[27]? = some Tryd.f27 := by kernel_rfl
theorem params : Tryd.f27.params.toList.map ty = [(.struct [49, 3, 3])] := by kernel_rfl
theorem results : Tryd.f27.resultTypes.toList = [4] := by kernel_rfl
theorem flat : Tryd.f27.resultTypes.toList.all (fun t => K.flat ty 20 (ty t)) = true := by kernel_rfl
theorem ok : ConOk (27, c) := by
  intro fn hfn
  obtain rfl : Tryd.f27 = fn := Option.some.inj (fun_at.symm.trans hfn)
  refine contract_flat (n := 20) hgl (fun _ => flat) (fun ds r hh0 hr => ?_)
  rw [params] at hh0
  obtain ⟨p0, ds0, rfl, h0, hh1⟩ := hass_cons hh0
  obtain rfl := hass_nil hh1
  refine ⟨e FUEL, DEPTH, tblOf (t FUEL), envOk (allCons F21.ok (allCons F45.ok (allCons F46.ok allNil))) allNil, rfl, t_ok FUEL, ?_⟩
  rw [params, results]
  exact (run FUEL p0).trans hr
end F27
namespace F25
def cons : List (Nat × Con) := [(32, F32.c)]
def exts : List (Nat × Ext) := []
def h : List (Nat × Nat × Hint) := [(43, 4, { live := [1, 2, 15, 16, 17], rows := [], own := false, inpl := false })]
noncomputable def e (M : Nat) : Env := env cons exts h M
noncomputable def t25_0 (_ : Nat) : List Ent := []
theorem t25_0_ok (M : Nat) : AllOk (e M) (tblOf (t25_0 M)) := AllOk.nil
structure S43_4 where
  d1 : D
  d2 : D
  i3 : Int
  i4 : Int
  d5 : D
  d6 : D
inductive X43_4 where
  | e0 (d1 : D) (d2 : D) (i3 : Int) (i4 : Int) (d5 : D) (d6 : D) (r7 : D)
  | e1 (d1 : D) (d2 : D) (i3 : Int) (i4 : Int) (d5 : D) (d6 : D)
def st43_4 (M : Nat) : S43_4 → (S43_4 → Option D) → (X43_4 → Option D) → Option D
  | ⟨d1, d2, i3, i4, d5, d6⟩, rec, K => (cond (ltI i4 i3) (cond (inb i4 d2.elems.length) (cond (inb i4 d1.elems.length) (bd (F32.s FUEL (ix d2.elems i4.toNat) (ix d1.elems i4.toNat)) fun r7 => (cond (!r7.b) (K (.e0 d1 d2 i3 i4 d5 d6 r7)) (rec ⟨d1, d2, i3, (ad .i64 i4 1), d5, d6⟩))) none) none) (K (.e1 d1 d2 i3 i4 d5 d6)))
def lv43_4 : S43_4 → List Leaf
  | ⟨d1, d2, i3, i4, d5, d6⟩ => [.d d1, .d d2, .i i3, .i i4, .d d5, .d d6]
def of43_4 : List Leaf → Option S43_4
  | [.d d1, .d d2, .i i3, .i i4, .d d5, .d d6] => some ⟨d1, d2, i3, i4, d5, d6⟩
  | _ => none
def ex43_4 (k : Kont) : X43_4 → Option D
  | .e0 d1 d2 i3 i4 d5 d6 r7 => k .ret (us 1 ((.d (.slice 42) d1) :: ((.d .func (D.fn 32)) :: (us 3 ((.d .bool (db false)) :: ((.d (.int .i64) (di i4)) :: ((.ptr 2 [] (.struct [3, 9, 9, 4, 3, 40])) :: ((.ptr 3 [] (.struct [3, 9, 9, 4, 3, 40])) :: (us 5 ((.d (.slice 42) d2) :: ((.d (.int .i64) (di i3)) :: ((.d (.int .i64) (di i4)) :: ((.d .bool (db (ltI i4 i3))) :: ((.d (.int .i64) (di i4)) :: ((.cptr (.struct [3, 9, 9, 4, 3, 40]) (ix d2.elems i4.toNat)) :: ((.d (.struct [3, 9, 9, 4, 3, 40]) (ix d2.elems i4.toNat)) :: ((.d (.slice 42) d1) :: ((.d (.int .i64) (di i4)) :: ((.cptr (.struct [3, 9, 9, 4, 3, 40]) (ix d1.elems i4.toNat)) :: ((.d (.struct [3, 9, 9, 4, 3, 40]) (ix d1.elems i4.toNat)) :: ((.d .func (D.fn 32)) :: ((.d (.struct [3, 9, 9, 4, 3, 40]) (ix d2.elems i4.toNat)) :: ((.d (.struct [3, 9, 9, 4, 3, 40]) (ix d1.elems i4.toNat)) :: ((.d .bool r7) :: ((.d .bool (db (!r7.b))) :: (us 1 [])))))))))))))))))))))))))) [(.var (.struct [49, 3, 3]) (.d (.struct [49, 3, 3]) d5)), (.var (.struct [49, 3, 3]) (.d (.struct [49, 3, 3]) d6)), (.var (.struct [3, 9, 9, 4, 3, 40]) (.d (.struct [3, 9, 9, 4, 3, 40]) (ix d2.elems i4.toNat))), (.var (.struct [3, 9, 9, 4, 3, 40]) (.d (.struct [3, 9, 9, 4, 3, 40]) (ix d1.elems i4.toNat)))]
  | .e1 d1 d2 i3 i4 d5 d6 => k (.exit 0) (us 1 ((.d (.slice 42) d1) :: ((.d .func (D.fn 32)) :: (us 12 ((.d (.slice 42) d2) :: ((.d (.int .i64) (di i3)) :: ((.d (.int .i64) (di i4)) :: ((.d .bool (db (ltI i4 i3))) :: (us 13 []))))))))) [(.var (.struct [49, 3, 3]) (.d (.struct [49, 3, 3]) d5)), (.var (.struct [49, 3, 3]) (.d (.struct [49, 3, 3]) d6))]
def ps43_4 : List PV := (up 1 ((.d (.slice 42) .x) :: ((.d .func (.fn 32)) :: (up 12 ((.d (.slice 42) .x) :: ((.d (.int .i64) (.int .i64)) :: ((.d (.int .i64) (.int .i64)) :: (up 14 []))))))))
def qs43_4 : List PO := [(.var (.struct [49, 3, 3]) (.d (.struct [49, 3, 3]) .x)), (.var (.struct [49, 3, 3]) (.d (.struct [49, 3, 3]) .x))]
noncomputable def sum43_4 (M : Nat) : Sum := sumS [1, 2, 15, 16, 17] ps43_4 qs43_4 [] of43_4 (st43_4 M) ex43_4 M
theorem sok43_4 (M : Nat) : SumOk (loopRd (e M) 43 4) (e M) (call (e M) 10) 43 2 (loopAt (e M) 43 4) (sum43_4 M) :=
  sumOk_st (T := tblOf (t25_0 M)) (n0 := 2) (lv := lv43_4) (t25_0_ok M) (by kernel_rfl) rfl (by intro ls s h; unfold of43_4 at h; (repeat' split at h) <;> simp at h; subst h; rfl) (by intro s; kernel_rfl) (by intro s; kernel_rfl) (by intro s nx k; kernel_rfl)
noncomputable def t25_1 (M : Nat) : List Ent := ⟨43, 10, 2, 4, sum43_4 M⟩ :: t25_0 M
theorem t25_1_ok (M : Nat) : AllOk (e M) (tblOf (t25_1 M)) := (t25_0_ok M).add ⟨43, 10, 2, 4, sum43_4 M⟩ (by kernel_rfl) (sok43_4 M)
def s (M : Nat) (p0 : D) (p1 : D) : Option D :=
  (cond (eqI (p0.at 1).i (p1.at 1).i) (cond (eqI (p0.at 2).i (p1.at 2).i) (cond (neI (nI (p0.at 0).elems.length) (nI (p1.at 0).elems.length)) (some (db false)) (goS (st43_4 M) M ⟨(p1.at 0), (p0.at 0), (nI (p0.at 0).elems.length), 0, p0, p1⟩ fun x => match x with | .e0 d1 d2 i3 i4 d5 d6 r7 => (some (db false)) | .e1 d1 d2 i3 i4 d5 d6 => (some (db true)))) (some (db false))) (some (db false)))
theorem run (M : Nat) (p0 : D) (p1 : D) : callS (e M) (tblOf (t25_1 M)) 12 (.fn 25) [.d (.struct [49, 3, 3]) p0, .d (.struct [49, 3, 3]) p1] [] (fun v H => finish ty [4] v H) = s M p0 p1 := by kernel_rfl
noncomputable abbrev t (M : Nat) : List Ent := t25_1 M
theorem t_ok (M : Nat) : AllOk (e M) (tblOf (t M)) := t25_1_ok M
def c : Con := { run := fun ds => match ds with | [p0, p1] => s FUEL p0 p1 | _ => none, fresh := false, plain := true }
theorem fun_at : Tryd.prog.funcs[25]? = some Tryd.f25 := by kernel_rfl
theorem params : Tryd.f25.params.toList.map ty = [(.struct [49, 3, 3]), (.struct [49, 3, 3])] := by kernel_rfl
theorem results : Tryd.f25.resultTypes.toList = [4] := by kernel_rfl
theorem flat : Tryd.f25.resultTypes.toList.all (fun t => K.flat ty 20 (ty t)) = true := by kernel_rfl
theorem ok : ConOk (25, c) := by
  intro fn hfn
  obtain rfl : Tryd.f25 = fn := Option.some.inj (fun_at.symm.trans hfn)
  refine contract_flat (n := 20) hgl (fun _ => flat) (fun ds r hh0 hr => ?_)
  rw [params] at hh0
  obtain ⟨p0, ds0, rfl, h0, hh1⟩ := hass_cons hh0
  obtain ⟨p1, ds1, rfl, h1, hh2⟩ := hass_cons hh1
  obtain rfl := hass_nil hh2
  refine ⟨e FUEL, DEPTH, tblOf (t FUEL), envOk (allCons F32.ok allNil) allNil, rfl, t_ok FUEL, ?_⟩
  rw [params, results]
  exact (run FUEL p0 p1).trans hr
end F25
namespace F17
def cons : List (Nat × Con) := [(19, F19.c), (20, F20.c), (21, F21.c), (25, F25.c), (27, F27.c)]
def exts : List (Nat × Ext) := []
def h : List (Nat × Nat × Hint) := []
noncomputable def e (M : Nat) : Env := env cons exts h M
noncomputable def t17_0 (_ : Nat) : List Ent := []
theorem t17_0_ok (M : Nat) : AllOk (e M) (tblOf (t17_0 M)) := AllOk.nil
def s (M : Nat)  : Option D :=
  (bd (F19.s FUEL (da [(dl false []), (di 0), (di 0)]) (dl true [(da [(di 0), (dS (bs [97])), (dS (bs [])), (di 0), (di 0), (di 0)]), (da [(di 1), (dS (bs [97])), (dS (bs [97, 98])), (di 0), (di 0), (di 0)]), (da [(di 2), (dS (bs [97])), (dS (bs [])), (di 5), (di 0), (di 0)]), (da [(di 7), (dS (bs [])), (dS (bs [])), (di 5), (di 0), (di 0)])])) fun r1 => (cond (neI (nI (r1.at 1).elems.length) 4) (some (db false)) (cond (neI (nI (r1.at 2).elems.length) 4) (some (db false)) (bd (F21.s FUEL (r1.at 0) (bs [97])) fun r2 => (cond (neI r2.i 0) (some (db false)) (bd (F20.s FUEL (r1.at 0) (da [(di 9), (dS (bs [97])), (dS (bs [])), (di 0), (di 0), (di 2)])) fun r3 => (bd (F20.s FUEL (r1.at 0) (da [(di 8), (dS (bs [])), (dS (bs [])), (di 0), (di 0), (di 0)])) fun r4 => (cond (inb 0 (r1.at 1).elems.length) (cond (eqI ((ix (r1.at 1).elems 0).at 1).i 1) (cond (inb 1 (r1.at 1).elems.length) (cond (eqI ((ix (r1.at 1).elems 1).at 1).i 2) (cond (inb 3 (r1.at 1).elems.length) (cond (eqI ((ix (r1.at 1).elems 3).at 1).i 5) (cond (eqS ((r3.at 1).at 2).s (bs [97, 98])) (cond (eqI ((r4.at 1).at 1).i 1) (cond (eqI (nI (r4.at 2).elems.length) 1) (cond (inb 0 (r4.at 2).elems.length) (bd (match D.eqv ty eqDepth (ix (r4.at 2).elems 0) (da [(di 6), (di 1), (dS (bs [])), (di 0), (di 0), (da (rp 32 (D.int .u8 0)))]) (.struct [34, 3, 9, 3, 3, 36]) with | some z => some (.bool z) | none => none) fun r5 => (cond r5.b (cond (eqI (nI ((r4.at 0).at 0).elems.length) 0) (cond (eqI ((r4.at 0).at 1).i 1) (cond (eqI ((r4.at 0).at 2).i 5) (bd (F27.s FUEL (r1.at 0)) fun r6 => (cond r6.b (bd (F25.s FUEL (r1.at 0) (r1.at 0)) fun r7 => (cond r7.b (bd (F25.s FUEL (r1.at 0) (r4.at 0)) fun r8 => (some (db (!r8.b)))) (some (db false)))) (some (db false)))) (some (db false))) (some (db false))) (some (db false))) (some (db false)))) none) (some (db false))) (some (db false))) (some (db false))) (some (db false))) none) (some (db false))) none) (some (db false))) none))))))))
theorem run (M : Nat)  : callS (e M) (tblOf (t17_0 M)) 12 (.fn 17) [] [] (fun v H => finish ty [4] v H) = s M  := by kernel_rfl
noncomputable abbrev t (M : Nat) : List Ent := t17_0 M
theorem t_ok (M : Nat) : AllOk (e M) (tblOf (t M)) := t17_0_ok M
def c : Con := { run := fun ds => match ds with | [] => s FUEL  | _ => none, fresh := false, plain := true }
theorem fun_at : Tryd.prog.funcs[17]? = some Tryd.f17 := by kernel_rfl
theorem params : Tryd.f17.params.toList.map ty = [] := by kernel_rfl
theorem results : Tryd.f17.resultTypes.toList = [4] := by kernel_rfl
theorem flat : Tryd.f17.resultTypes.toList.all (fun t => K.flat ty 20 (ty t)) = true := by kernel_rfl
theorem ok : ConOk (17, c) := by
  intro fn hfn
  obtain rfl : Tryd.f17 = fn := Option.some.inj (fun_at.symm.trans hfn)
  refine contract_flat (n := 20) hgl (fun _ => flat) (fun ds r hh0 hr => ?_)
  rw [params] at hh0
  obtain rfl := hass_nil hh0
  refine ⟨e FUEL, DEPTH, tblOf (t FUEL), envOk (allCons F19.ok (allCons F20.ok (allCons F21.ok (allCons F25.ok (allCons F27.ok allNil))))) allNil, rfl, t_ok FUEL, ?_⟩
  rw [params, results]
  exact (run FUEL ).trans hr
end F17
namespace F18
def cons : List (Nat × Con) := []
def exts : List (Nat × Ext) := []
def h : List (Nat × Nat × Hint) := [(18, 2, { live := [0, 3], rows := [], own := false, inpl := false })]
noncomputable def e (M : Nat) : Env := env cons exts h M
noncomputable def t18_0 (_ : Nat) : List Ent := []
theorem t18_0_ok (M : Nat) : AllOk (e M) (tblOf (t18_0 M)) := AllOk.nil
structure S2 where
  d1 : D
  i2 : Int
inductive X2 where
  | e0 (d1 : D) (i2 : Int)
  | e1 (d1 : D) (i2 : Int)
  | e2 (d1 : D) (i2 : Int)
  | e3 (d1 : D) (i2 : Int)
def st2 (M : Nat) : S2 → (S2 → Option D) → (X2 → Option D) → Option D
  | ⟨d1, i2⟩, rec, K => (cond (ltI i2 (nI d1.elems.length)) (cond (leI i2 30) (cond (inb i2 d1.elems.length) (cond (gtI (nI ((ix d1.elems i2.toNat).at 2).s.size) 700) (K (.e0 d1 i2)) (cond (inb i2 d1.elems.length) (cond (gtI (nI ((ix d1.elems i2.toNat).at 1).s.size) 200) (K (.e1 d1 i2)) (rec ⟨d1, (ad .i64 i2 1)⟩)) none)) none) (K (.e2 d1 i2))) (K (.e3 d1 i2)))
def lv2 : S2 → List Leaf
  | ⟨d1, i2⟩ => [.d d1, .i i2]
def of2 : List Leaf → Option S2
  | [.d d1, .i i2] => some ⟨d1, i2⟩
  | _ => none
def ex2 (k : Kont) : X2 → Option D
  | .e0 d1 i2 => k .ret ((.d (.slice 47) d1) :: (us 1 ((.d .bool (db false)) :: ((.d (.int .i64) (di i2)) :: ((.d (.int .i64) (di i2)) :: ((.d (.slice 47) d1) :: ((.d (.int .i64) (di (nI d1.elems.length))) :: ((.d .bool (db (ltI i2 (nI d1.elems.length)))) :: ((.d .bool (db true)) :: ((.d (.int .i64) (di i2)) :: ((.d .bool (db (leI i2 30))) :: ((.d .bool (db (leI i2 30))) :: (us 2 ((.d (.slice 47) d1) :: ((.d (.int .i64) (di i2)) :: ((.cptr (.struct [34, 9, 9, 3, 3, 3]) (ix d1.elems i2.toNat)) :: ((.cptr .str ((ix d1.elems i2.toNat).at 2)) :: ((.d .str ((ix d1.elems i2.toNat).at 2)) :: ((.d (.int .i64) (di (nI ((ix d1.elems i2.toNat).at 2).s.size))) :: ((.d .bool (db (gtI (nI ((ix d1.elems i2.toNat).at 2).s.size) 700))) :: ((.d .bool (db true)) :: ((.tup []) :: ((.tup []) :: ((.tup []) :: ((.tup []) :: ((.tup []) :: ((.tup []) :: ((.tup []) :: ((.d .bool (db true)) :: (us 3 [])))))))))))))))))))))))))))))) []
  | .e1 d1 i2 => k .ret ((.d (.slice 47) d1) :: (us 1 ((.d .bool (db false)) :: ((.d (.int .i64) (di i2)) :: ((.d (.int .i64) (di i2)) :: ((.d (.slice 47) d1) :: ((.d (.int .i64) (di (nI d1.elems.length))) :: ((.d .bool (db (ltI i2 (nI d1.elems.length)))) :: ((.d .bool (db true)) :: ((.d (.int .i64) (di i2)) :: ((.d .bool (db (leI i2 30))) :: ((.d .bool (db (leI i2 30))) :: (us 2 ((.d (.slice 47) d1) :: ((.d (.int .i64) (di i2)) :: ((.cptr (.struct [34, 9, 9, 3, 3, 3]) (ix d1.elems i2.toNat)) :: ((.cptr .str ((ix d1.elems i2.toNat).at 2)) :: ((.d .str ((ix d1.elems i2.toNat).at 2)) :: ((.d (.int .i64) (di (nI ((ix d1.elems i2.toNat).at 2).s.size))) :: ((.d .bool (db (gtI (nI ((ix d1.elems i2.toNat).at 2).s.size) 700))) :: ((.d .bool (db false)) :: ((.d (.slice 47) d1) :: ((.d (.int .i64) (di i2)) :: ((.cptr (.struct [34, 9, 9, 3, 3, 3]) (ix d1.elems i2.toNat)) :: ((.cptr .str ((ix d1.elems i2.toNat).at 1)) :: ((.d .str ((ix d1.elems i2.toNat).at 1)) :: ((.d (.int .i64) (di (nI ((ix d1.elems i2.toNat).at 1).s.size))) :: ((.d .bool (db (gtI (nI ((ix d1.elems i2.toNat).at 1).s.size) 200))) :: ((.d .bool (db (gtI (nI ((ix d1.elems i2.toNat).at 1).s.size) 200))) :: (us 3 [])))))))))))))))))))))))))))))) []
  | .e2 d1 i2 => k (.exit 0) ((.d (.slice 47) d1) :: (us 2 ((.d (.int .i64) (di i2)) :: ((.d (.int .i64) (di i2)) :: ((.d (.slice 47) d1) :: ((.d (.int .i64) (di (nI d1.elems.length))) :: ((.d .bool (db (ltI i2 (nI d1.elems.length)))) :: ((.d .bool (db true)) :: ((.d (.int .i64) (di i2)) :: ((.d .bool (db (leI i2 30))) :: ((.d .bool (db (leI i2 30))) :: (us 21 [])))))))))))) []
  | .e3 d1 i2 => k (.exit 0) ((.d (.slice 47) d1) :: (us 2 ((.d (.int .i64) (di i2)) :: ((.d (.int .i64) (di i2)) :: ((.d (.slice 47) d1) :: ((.d (.int .i64) (di (nI d1.elems.length))) :: ((.d .bool (db (ltI i2 (nI d1.elems.length)))) :: ((.d .bool (db false)) :: ((.tup []) :: ((.tup []) :: ((.d .bool (db false)) :: (us 21 [])))))))))))) []
def ps2 : List PV := ((.d (.slice 47) .x) :: (up 2 ((.d (.int .i64) (.int .i64)) :: (up 29 []))))
def qs2 : List PO := []
noncomputable def sum2 (M : Nat) : Sum := sumS [0, 3] ps2 qs2 [] of2 (st2 M) ex2 M
theorem sok2 (M : Nat) : SumOk (loopRd (e M) 18 2) (e M) (call (e M) 11) 18 0 (loopAt (e M) 18 2) (sum2 M) :=
  sumOk_st (T := tblOf (t18_0 M)) (n0 := 0) (lv := lv2) (t18_0_ok M) (by kernel_rfl) rfl (by intro ls s h; unfold of2 at h; (repeat' split at h) <;> simp at h; subst h; rfl) (by intro s; kernel_rfl) (by intro s; kernel_rfl) (by intro s nx k; kernel_rfl)
noncomputable def t18_1 (M : Nat) : List Ent := ⟨18, 11, 0, 2, sum2 M⟩ :: t18_0 M
theorem t18_1_ok (M : Nat) : AllOk (e M) (tblOf (t18_1 M)) := (t18_0_ok M).add ⟨18, 11, 0, 2, sum2 M⟩ (by kernel_rfl) (sok2 M)
def s (M : Nat) (p0 : D) : Option D :=
  (goS (st2 M) M ⟨p0, 0⟩ fun x => match x with | .e0 d1 i2 => (some (db false)) | .e1 d1 i2 => (some (db false)) | .e2 d1 i2 => (some (db (leI (nI d1.elems.length) 30))) | .e3 d1 i2 => (some (db (leI (nI d1.elems.length) 30))))
theorem run (M : Nat) (p0 : D) : callS (e M) (tblOf (t18_1 M)) 12 (.fn 18) [.d (.slice 47) p0] [] (fun v H => finish ty [4] v H) = s M p0 := by kernel_rfl
noncomputable abbrev t (M : Nat) : List Ent := t18_1 M
theorem t_ok (M : Nat) : AllOk (e M) (tblOf (t M)) := t18_1_ok M
def c : Con := { run := fun ds => match ds with | [p0] => s FUEL p0 | _ => none, fresh := false, plain := true }
theorem fun_at : Tryd.prog.funcs[18]? = some Tryd.f18 := by kernel_rfl
theorem params : Tryd.f18.params.toList.map ty = [(.slice 47)] := by kernel_rfl
theorem results : Tryd.f18.resultTypes.toList = [4] := by kernel_rfl
theorem flat : Tryd.f18.resultTypes.toList.all (fun t => K.flat ty 20 (ty t)) = true := by kernel_rfl
theorem ok : ConOk (18, c) := by
  intro fn hfn
  obtain rfl : Tryd.f18 = fn := Option.some.inj (fun_at.symm.trans hfn)
  refine contract_flat (n := 20) hgl (fun _ => flat) (fun ds r hh0 hr => ?_)
  rw [params] at hh0
  obtain ⟨p0, ds0, rfl, h0, hh1⟩ := hass_cons hh0
  obtain rfl := hass_nil hh1
  refine ⟨e FUEL, DEPTH, tblOf (t FUEL), envOk allNil allNil, rfl, t_ok FUEL, ?_⟩
  rw [params, results]
  exact (run FUEL p0).trans hr
end F18
namespace F40
def cons : List (Nat × Con) := []
def exts : List (Nat × Ext) := []
def h : List (Nat × Nat × Hint) := [(40, 4, { live := [0, 1, 5], rows := [], own := false, inpl := false })]
noncomputable def e (M : Nat) : Env := env cons exts h M
noncomputable def t40_0 (_ : Nat) : List Ent := []
theorem t40_0_ok (M : Nat) : AllOk (e M) (tblOf (t40_0 M)) := AllOk.nil
structure S4 where
  d1 : D
  d2 : D
  i3 : Int
inductive X4 where
  | e0 (d1 : D) (d2 : D) (i3 : Int)
  | e1 (d1 : D) (d2 : D) (i3 : Int)
def st4 (M : Nat) : S4 → (S4 → Option D) → (X4 → Option D) → Option D
  | ⟨d1, d2, i3⟩, rec, K => (cond (ltI i3 (nI d1.elems.length)) (cond (inb i3 d1.elems.length) (cond (inb i3 d2.elems.length) (cond (!(eqS (ix d1.elems i3.toNat).s (ix d2.elems i3.toNat).s)) (K (.e0 d1 d2 i3)) (rec ⟨d1, d2, (ad .i64 i3 1)⟩)) none) none) (K (.e1 d1 d2 i3)))
def lv4 : S4 → List Leaf
  | ⟨d1, d2, i3⟩ => [.d d1, .d d2, .i i3]
def of4 : List Leaf → Option S4
  | [.d d1, .d d2, .i i3] => some ⟨d1, d2, i3⟩
  | _ => none
def ex4 (k : Kont) : X4 → Option D
  | .e0 d1 d2 i3 => k .ret ((.d (.slice 9) d1) :: ((.d (.slice 9) d2) :: (us 2 ((.d .bool (db false)) :: ((.d (.int .i64) (di i3)) :: (us 5 ((.d (.int .i64) (di i3)) :: ((.d (.slice 9) d1) :: ((.d (.int .i64) (di (nI d1.elems.length))) :: ((.d .bool (db (ltI i3 (nI d1.elems.length)))) :: (us 2 ((.d (.slice 9) d1) :: ((.d (.int .i64) (di i3)) :: ((.cptr .str (ix d1.elems i3.toNat)) :: ((.d .str (ix d1.elems i3.toNat)) :: ((.d (.slice 9) d2) :: ((.d (.int .i64) (di i3)) :: ((.cptr .str (ix d2.elems i3.toNat)) :: ((.d .str (ix d2.elems i3.toNat)) :: ((.d .bool (db (!(eqS (ix d1.elems i3.toNat).s (ix d2.elems i3.toNat).s)))) :: [])))))))))))))))))))) []
  | .e1 d1 d2 i3 => k (.exit 0) ((.d (.slice 9) d1) :: ((.d (.slice 9) d2) :: (us 3 ((.d (.int .i64) (di i3)) :: (us 5 ((.d (.int .i64) (di i3)) :: ((.d (.slice 9) d1) :: ((.d (.int .i64) (di (nI d1.elems.length))) :: ((.d .bool (db (ltI i3 (nI d1.elems.length)))) :: (us 11 [])))))))))) []
def ps4 : List PV := ((.d (.slice 9) .x) :: ((.d (.slice 9) .x) :: (up 3 ((.d (.int .i64) (.int .i64)) :: (up 20 [])))))
def qs4 : List PO := []
noncomputable def sum4 (M : Nat) : Sum := sumS [0, 1, 5] ps4 qs4 [] of4 (st4 M) ex4 M
theorem sok4 (M : Nat) : SumOk (loopRd (e M) 40 4) (e M) (call (e M) 11) 40 0 (loopAt (e M) 40 4) (sum4 M) :=
  sumOk_st (T := tblOf (t40_0 M)) (n0 := 0) (lv := lv4) (t40_0_ok M) (by kernel_rfl) rfl (by intro ls s h; unfold of4 at h; (repeat' split at h) <;> simp at h; subst h; rfl) (by intro s; kernel_rfl) (by intro s; kernel_rfl) (by intro s nx k; kernel_rfl)
noncomputable def t40_1 (M : Nat) : List Ent := ⟨40, 11, 0, 4, sum4 M⟩ :: t40_0 M
theorem t40_1_ok (M : Nat) : AllOk (e M) (tblOf (t40_1 M)) := (t40_0_ok M).add ⟨40, 11, 0, 4, sum4 M⟩ (by kernel_rfl) (sok4 M)
def s (M : Nat) (p0 : D) (p1 : D) : Option D :=
  (cond (neI (nI p0.elems.length) (nI p1.elems.length)) (some (db false)) (goS (st4 M) M ⟨p0, p1, 0⟩ fun x => match x with | .e0 d1 d2 i3 => (some (db false)) | .e1 d1 d2 i3 => (some (db true))))
theorem run (M : Nat) (p0 : D) (p1 : D) : callS (e M) (tblOf (t40_1 M)) 12 (.fn 40) [.d (.slice 9) p0, .d (.slice 9) p1] [] (fun v H => finish ty [4] v H) = s M p0 p1 := by kernel_rfl
noncomputable abbrev t (M : Nat) : List Ent := t40_1 M
theorem t_ok (M : Nat) : AllOk (e M) (tblOf (t M)) := t40_1_ok M
def c : Con := { run := fun ds => match ds with | [p0, p1] => s FUEL p0 p1 | _ => none, fresh := false, plain := true }
theorem fun_at : Tryd.prog.funcs[40]? = some Tryd.f40 := by kernel_rfl
theorem params : Tryd.f40.params.toList.map ty = [(.slice 9), (.slice 9)] := by kernel_rfl
theorem results : Tryd.f40.resultTypes.toList = [4] := by kernel_rfl
theorem flat : Tryd.f40.resultTypes.toList.all (fun t => K.flat ty 20 (ty t)) = true := by kernel_rfl
theorem ok : ConOk (40, c) := by
  intro fn hfn
  obtain rfl : Tryd.f40 = fn := Option.some.inj (fun_at.symm.trans hfn)
  refine contract_flat (n := 20) hgl (fun _ => flat) (fun ds r hh0 hr => ?_)
  rw [params] at hh0
  obtain ⟨p0, ds0, rfl, h0, hh1⟩ := hass_cons hh0
  obtain ⟨p1, ds1, rfl, h1, hh2⟩ := hass_cons hh1
  obtain rfl := hass_nil hh2
  refine ⟨e FUEL, DEPTH, tblOf (t FUEL), envOk allNil allNil, rfl, t_ok FUEL, ?_⟩
  rw [params, results]
  exact (run FUEL p0 p1).trans hr
end F40
namespace F22
def cons : List (Nat × Con) := [(40, F40.c)]
def exts : List (Nat × Ext) := []
def h : List (Nat × Nat × Hint) := []
noncomputable def e (M : Nat) : Env := env cons exts h M
noncomputable def t22_0 (_ : Nat) : List Ent := []
theorem t22_0_ok (M : Nat) : AllOk (e M) (tblOf (t22_0 M)) := AllOk.nil
def s (M : Nat) (p0 : D) (p1 : D) : Option D :=
  (cond (eqI (p0.at 0).i (p1.at 0).i) (cond (eqS (p0.at 1).s (p1.at 1).s) (cond (eqS (p0.at 2).s (p1.at 2).s) (bd (match D.eqv ty eqDepth (p0.at 3) (p1.at 3) .bool with | some z => some (.bool z) | none => none) fun r1 => (cond r1.b (cond (eqI (p0.at 4).i (p1.at 4).i) (bd (F40.s FUEL (p0.at 5) (p1.at 5)) fun r2 => (some r2)) (some (db false))) (some (db false)))) (some (db false))) (some (db false))) (some (db false)))
theorem run (M : Nat) (p0 : D) (p1 : D) : callS (e M) (tblOf (t22_0 M)) 12 (.fn 22) [.d (.struct [3, 9, 9, 4, 3, 40]) p0, .d (.struct [3, 9, 9, 4, 3, 40]) p1] [] (fun v H => finish ty [4] v H) = s M p0 p1 := by kernel_rfl
noncomputable abbrev t (M : Nat) : List Ent := t22_0 M
theorem t_ok (M : Nat) : AllOk (e M) (tblOf (t M)) := t22_0_ok M
def c : Con := { run := fun ds => match ds with | [p0, p1] => s FUEL p0 p1 | _ => none, fresh := false, plain := true }
theorem fun_at : Tryd.prog.funcs[22]? = some Tryd.f22 := by kernel_rfl
theorem params : Tryd.f22.params.toList.map ty = [(.struct [3, 9, 9, 4, 3, 40]), (.struct [3, 9, 9, 4, 3, 40])] := by kernel_rfl
theorem results : Tryd.f22.resultTypes.toList = [4] := by kernel_rfl
theorem flat : Tryd.f22.resultTypes.toList.all (fun t => K.flat ty 20 (ty t)) = true := by kernel_rfl
theorem ok : ConOk (22, c) := by
  intro fn hfn
  obtain rfl : Tryd.f22 = fn := Option.some.inj (fun_at.symm.trans hfn)
  refine contract_flat (n := 20) hgl (fun _ => flat) (fun ds r hh0 hr => ?_)
  rw [params] at hh0
  obtain ⟨p0, ds0, rfl, h0, hh1⟩ := hass_cons hh0
  obtain ⟨p1, ds1, rfl, h1, hh2⟩ := hass_cons hh1
  obtain rfl := hass_nil hh2
  refine ⟨e FUEL, DEPTH, tblOf (t FUEL), envOk (allCons F40.ok allNil) allNil, rfl, t_ok FUEL, ?_⟩
  rw [params, results]
  exact (run FUEL p0 p1).trans hr
end F22
namespace F6
def cons : List (Nat × Con) := [(17, F17.c), (18, F18.c), (19, F19.c), (20, F20.c), (21, F21.c), (22, F22.c)]
def exts : List (Nat × Ext) := []
def h : List (Nat × Nat × Hint) := []
noncomputable def e (M : Nat) : Env := env cons exts h M
noncomputable def t6_0 (_ : Nat) : List Ent := []
theorem t6_0_ok (M : Nat) : AllOk (e M) (tblOf (t6_0 M)) := AllOk.nil
def s (M : Nat) (p0 : D) (p1 : D) (p2 : ByteArray) : Option D :=
  (bd (F17.s FUEL) fun r1 => (cond (!r1.b) (some (db false)) (bd (F18.s FUEL p0) fun r2 => (cond r2.b (bd (F18.s FUEL (dl true [p1])) fun r3 => (cond (!r3.b) (some r1) (cond (eqS (p1.at 1).s p2) (some r1) (cond (eqI (p1.at 0).i 8) (some r1) (cond (eqI (p1.at 0).i 7) (some r1) (bd (F19.s FUEL (da [(dl false []), (di 0), (di 0)]) p0) fun r4 => (bd (F20.s FUEL (r4.at 0) p1) fun r5 => (bd (F21.s FUEL (r4.at 0) p2) fun r6 => (bd (F21.s FUEL (r5.at 0) p2) fun r7 => (cond (ltI r6.i 0) (cond r1.b (some (db (eqI r6.i r7.i))) (some (db false))) (cond (ltI r7.i 0) (cond r1.b (some (db (eqI r6.i r7.i))) (some (db false))) (bdB r1 fun g8 => (cond g8 (cond (inb r6.i ((r4.at 0).at 0).elems.length) (cond (inb r7.i ((r5.at 0).at 0).elems.length) (bd (F22.s FUEL (ix ((r4.at 0).at 0).elems (r6.i).toNat) (ix ((r5.at 0).at 0).elems (r7.i).toNat)) fun r9 => (some r9)) none) none) (some (db false))))))))))))))) (some r1)))))
theorem run (M : Nat) (p0 : D) (p1 : D) (p2 : ByteArray) : callS (e M) (tblOf (t6_0 M)) 12 (.fn 6) [.d (.slice 47) p0, .d (.struct [34, 9, 9, 3, 3, 3]) p1, .d .str (dS p2)] [] (fun v H => finish ty [4] v H) = s M p0 p1 p2 := by kernel_rfl
noncomputable abbrev t (M : Nat) : List Ent := t6_0 M
theorem t_ok (M : Nat) : AllOk (e M) (tblOf (t M)) := t6_0_ok M
def c : Con := { run := fun ds => match ds with | [p0, p1, p2] => s FUEL p0 p1 p2.s | _ => none, fresh := false, plain := true }
theorem fun_at : Tryd.prog.funcs[6]? = some Tryd.f6 := by kernel_rfl
theorem params : Tryd.f6.params.toList.map ty = [(.slice 47), (.struct [34, 9, 9, 3, 3, 3]), .str] := by kernel_rfl
theorem results : Tryd.f6.resultTypes.toList = [4] := by kernel_rfl
theorem flat : Tryd.f6.resultTypes.toList.all (fun t => K.flat ty 20 (ty t)) = true := by kernel_rfl
theorem ok : ConOk (6, c) := by
  intro fn hfn
  obtain rfl : Tryd.f6 = fn := Option.some.inj (fun_at.symm.trans hfn)
  refine contract_flat (n := 20) hgl (fun _ => flat) (fun ds r hh0 hr => ?_)
  rw [params] at hh0
  obtain ⟨p0, ds0, rfl, h0, hh1⟩ := hass_cons hh0
  obtain ⟨p1, ds1, rfl, h1, hh2⟩ := hass_cons hh1
  obtain ⟨p2, ds2, rfl, h2, hh3⟩ := hass_cons hh2
  obtain ⟨p2, rfl⟩ := has_str h2
  obtain rfl := hass_nil hh3
  refine ⟨e FUEL, DEPTH, tblOf (t FUEL), envOk (allCons F17.ok (allCons F18.ok (allCons F19.ok (allCons F20.ok (allCons F21.ok (allCons F22.ok allNil)))))) allNil, rfl, t_ok FUEL, ?_⟩
  rw [params, results]
  exact (run FUEL p0 p1 p2).trans hr
end F6
end Go.AM.SD
namespace Go.AM
open Go Go.RowKit Go.ChangeShapes Go.WideShapes Go.ChangeAt Go.WideElems
mutual
def D.wf : D → Prop
  | .int k n => k.min ≤ n ∧ n ≤ k.max
  | .str s => s.size ≤ 9223372036854775807
  | .agg ds => D.wfs ds
  | .slice _ ds => ds.length ≤ 9223372036854775807 ∧ D.wfs ds
  | .iface _ x => D.wf x
  | .tup ds => D.wfs ds
  | _ => True
def D.wfs : List D → Prop
  | [] => True
  | d :: ds => D.wf d ∧ D.wfs ds
end
def K.dat (ty : Nat → K) : Nat → K → Bool
  | _, .bool => true
  | _, .int _ => true
  | _, .str => true
  | n + 1, .struct fs => !fs.isEmpty && fs.all fun f => K.dat ty n (ty f)
  | n + 1, .array m e => decide (0 < m) && K.dat ty n (ty e)
  | n + 1, .slice e => K.dat ty n (ty e)
  | _, _ => false
section
variable {P : Program} {ty : Nat → K} {H : Type} {enc : TypeId × Value → H} {w : World} {sp : Nat → Bool} {held : Bool}
theorem wfs_of : ∀ {ds : List D}, (∀ d ∈ ds, D.wf d) → D.wfs ds
  | [], _ => by simp [D.wfs]
  | d :: ds, h => by simp only [D.wfs]; exact ⟨h d (by simp), wfs_of fun x hx => h x (by simp [hx])⟩
theorem wfs_mem : ∀ {ds : List D}, D.wfs ds → ∀ d ∈ ds, D.wf d
  | [], _, _, h => by simp at h
  | a :: ds, h, d, hd => by
    simp only [D.wfs] at h
    rcases List.mem_cons.1 hd with rfl | hd
    · exact h.1
    · exact wfs_mem h.2 d hd
theorem reps_of {M : Mem} : ∀ (n : Nat) (κ : Nat → K) (part : Nat → List Value), (∀ i, i < n → ∃ x v, v.cells.toList = part i ∧ Rep ty M x (κ i) v ∧ D.wf x) →
    ∃ ds, Reps ty M ds ((List.range n).map κ) ((List.range n).map part).flatten ∧ D.wfs ds ∧ ds.length = n
  | 0, κ, part, h => ⟨[], by simp [Reps], by simp [D.wfs], rfl⟩
  | n + 1, κ, part, h => by
    obtain ⟨ds, h1, h2, h3⟩ := reps_of n κ part (fun i hi => h i (by omega))
    obtain ⟨x, v, e, hr, hw⟩ := h n (by omega)
    refine ⟨ds ++ [x], ?_, ?_, by simp [h3]⟩
    · rw [List.range_succ, List.map_append, List.map_append, List.flatten_append]
      refine h1.append ?_
      simp only [List.map_cons, List.map_nil, List.flatten_cons, List.flatten_nil, List.append_nil, ← e]
      exact Reps.one hr
    · refine wfs_of fun d hd => ?_
      rcases List.mem_append.1 hd with hd | hd
      · exact wfs_mem h2 d hd
      · simp at hd; subst hd; exact hw
theorem chop (n k : Nat) (cs : List Value) (h : cs.length = n * k) : ((List.range n).map fun i => (cs.drop (i * k)).take k).flatten = cs := by
  induction n generalizing cs with
  | zero => simp at h; simp [h]
  | succ n ih =>
    rw [List.range_succ_eq_map]
    simp only [List.map_cons, List.map_map, List.flatten_cons]
    have h2 : (List.map ((fun i => (cs.drop (i * k)).take k) ∘ Nat.succ) (List.range n)) = (List.range n).map fun i => ((cs.drop k).drop (i * k)).take k := by
      apply List.map_congr_left
      intro i _
      simp only [Function.comp, List.drop_drop]
      congr 2
      rw [Nat.succ_mul]; omega
    rw [h2, ih (cs.drop k) (by rw [List.length_drop, h, Nat.succ_mul]; omega)]
    simp
theorem chopF {fields : Array Field} {P : Program} (cs : List Value) (ho : ∀ (j : Nat) (f : Field), fields[j]? = some f → f.offset = kOff P.cellsOf (.struct (fields.toList.map (·.type))) j)
    (hl : cs.length = ((fields.toList.map (·.type)).map P.cellsOf).sum) :
    ((List.range fields.size).map fun i => match fields[i]? with | some f => (cs.drop f.offset).take (P.cellsOf f.type) | none => []).flatten = cs := by
  have key : ∀ n, n ≤ fields.size → ((List.range n).map fun i => match fields[i]? with | some f => (cs.drop f.offset).take (P.cellsOf f.type) | none => []).flatten = cs.take ((((fields.toList.map (·.type)).take n).map P.cellsOf).sum) := by
    intro n
    induction n with
    | zero => intro _; simp
    | succ n ih =>
      intro hn
      rw [List.range_succ, List.map_append, List.flatten_append, ih (by omega)]
      have hf : fields[n]? = some fields[n] := by simp [show n < fields.size by omega]
      simp only [List.map_cons, List.map_nil, List.flatten_cons, List.flatten_nil, List.append_nil, hf]
      have h1 := ho n _ hf
      simp only [kOff] at h1
      have h2 : (fields.toList.map (·.type)).take (n + 1) = (fields.toList.map (·.type)).take n ++ [fields[n].type] := by
        rw [List.take_succ_eq_append_getElem (by simp; omega)]
        simp
      rw [h2, List.map_append, List.sum_append, h1, List.take_add]
      simp
  rw [key _ (Nat.le_refl _), List.take_of_length_le]
  rw [hl, List.take_of_length_le (by simp)]
  exact Nat.le_refl _
theorem spot_none {a : Addr} {v : Value} (h : w.cell? a = some v) : a.spot = none := by
  unfold World.cell? at h
  split at h
  · split at h
    · simp at h
    · rename_i hs; simpa using hs
  · simp at h
theorem mapM_get {α : Type} : ∀ {l : List Nat} {g : Nat → Option α} {ys : List α}, l.mapM g = some ys → ∀ (i : Nat) (y : α), ys[i]? = some y → ∃ n, l[i]? = some n ∧ g n = some y
  | [], g, ys, h, i, y, hy => by simp at h; subst h; simp at hy
  | a :: l, g, ys, h, i, y, hy => by
    simp only [List.mapM_cons, Option.bind_eq_bind, Option.bind_eq_some_iff, Option.pure_def, Option.some.injEq] at h
    obtain ⟨b, hb, rest, hr, rfl⟩ := h
    cases i with
    | zero => simp at hy; subst hy; exact ⟨a, rfl, hb⟩
    | succ i => simpa using mapM_get hr i y (by simpa using hy)
theorem mapM_len {α : Type} : ∀ {l : List Nat} {g : Nat → Option α} {ys : List α}, l.mapM g = some ys → ys.length = l.length
  | [], g, ys, h => by simp at h; subst h; rfl
  | a :: l, g, ys, h => by
    simp only [List.mapM_cons, Option.bind_eq_bind, Option.bind_eq_some_iff, Option.pure_def, Option.some.injEq] at h
    obtain ⟨b, hb, rest, hr, rfl⟩ := h
    simp [mapM_len hr]
theorem dat_ne {n t : Nat} (h : K.dat ty n (ty t) = true) : ty t ≠ .bad := by intro hb; rw [hb] at h; cases n <;> simp [K.dat] at h
theorem dat_pos (T : TyOk P ty) : ∀ (n t : Nat), K.dat ty n (ty t) = true → 0 < P.cellsOf t
  | n, t, h => by
    rw [T.szOk t (dat_ne h)]
    cases hk : ty t with
    | struct fs =>
      rw [hk] at h
      cases n with
      | zero => simp [K.dat] at h
      | succ n =>
        simp only [K.dat, Bool.and_eq_true, List.all_eq_true] at h
        cases fs with
        | nil => simp at h
        | cons f fs =>
          have := dat_pos T n f (h.2 f (by simp))
          simp only [ksz, List.map_cons, List.sum_cons]
          omega
    | array m e =>
      rw [hk] at h
      cases n with
      | zero => simp [K.dat] at h
      | succ n =>
        simp only [K.dat, Bool.and_eq_true, decide_eq_true_eq] at h
        have := dat_pos T n e h.2
        simp only [ksz]
        exact Nat.mul_pos h.1 this
    | _ => simp [ksz]
theorem trod_rep (T : TyOk P ty) : ∀ (fuel t : Nat) (cs : List Value) (x : DataW H × List MemPlace) (n : Nat), DataW.trod enc P w 0 sp held fuel t cs = some x → K.dat ty n (ty t) = true →
    ∃ y v, v.cells.toList = cs ∧ Rep ty (memOf w []) y (ty t) v ∧ D.wf y
  | 0, t, cs, x, n, h, _ => by simp [DataW.trod] at h
  | fuel + 1, t, cs, x, n, h, hd => by
    have hne : ty t ≠ .bad := by intro hb; rw [hb] at hd; cases n <;> simp [K.dat] at hd
    obtain ⟨i, hi⟩ := T t hne
    have hdesc := hi.desc
    cases hk : ty t with
    | bool =>
      rw [hk] at hdesc
      simp only [descOk] at hdesc
      obtain ⟨b, rfl, rfl⟩ := DataW.trod_bool hdesc h
      exact ⟨.bool b, .bool b, by simp [Value.cells], by simp [Rep], by simp [D.wf]⟩
    | int k =>
      rw [hk] at hdesc
      simp only [descOk] at hdesc
      obtain ⟨m, rfl, rfl, hw⟩ := DataW.trod_int hdesc h
      refine ⟨.int k m, .int k m, by simp [Value.cells], by simp [Rep], ?_⟩
      simpa [Lit.wf, D.wf] using hw
    | str =>
      rw [hk] at hdesc
      simp only [descOk] at hdesc
      obtain ⟨s, rfl, rfl, hs⟩ := DataW.trod_string hdesc h
      exact ⟨.str s, .string s, by simp [Value.cells], by simp [Rep], by simpa [D.wf, Go.maxLen] using hs⟩
    | struct fs =>
      rw [hk] at hdesc
      simp only [descOk] at hdesc
      obtain ⟨fields, h1, h2, h3⟩ := hdesc
      obtain ⟨xs, m, hm, rfl, hl, hxs, hE⟩ := DataW.trod_struct h1 h
      obtain rfl : m = fuel := by omega
      cases n with
      | zero => rw [hk] at hd; simp [K.dat] at hd
      | succ n =>
      rw [hk] at hd
      simp only [K.dat, Bool.and_eq_true, List.all_eq_true] at hd
      have hsz : P.cellsOf t = (fs.map P.cellsOf).sum := by rw [T.szOk t hne, hk]; rfl
      obtain ⟨ds, r1, r2, r3⟩ := reps_of (ty := ty) (M := memOf w []) fields.size (fun i => match fields[i]? with | some f => ty f.type | none => .bad) (fun i => match fields[i]? with | some f => (cs.drop f.offset).take (P.cellsOf f.type) | none => []) (fun i hi => by
        have hf : fields[i]? = some fields[i] := by simp [hi]
        simp only [hf]
        have he := hE i _ hf
        have hx : xs[i]? = some xs[i] := by simp [show i < xs.length by omega]
        rw [hx] at he
        refine trod_rep T m _ _ _ n he (hd.2 _ ?_)
        rw [← h2]
        exact List.mem_map.2 ⟨fields[i], by simp, rfl⟩)
      rw [chopF cs (fun j f hj => by have := (h3 j f hj).1; rw [h2]; exact this) (by rw [hl, hsz, h2])] at r1
      refine ⟨.agg ds, .agg cs.toArray, by simp [Value.cells], ?_, by simpa [D.wf] using r2⟩
      simp only [Rep, K.isAgg]
      refine ⟨trivial, cs.toArray, rfl, ?_⟩
      have hks : (List.range fields.size).map (fun i => match fields[i]? with | some f => ty f.type | none => .bad) = (K.struct fs).kids ty := by
        simp only [K.kids, ← h2, List.map_map]
        apply List.ext_getElem
        · simp
        · intro i h1 h2
          simp at h1
          simp [h1]
      rw [hks] at r1
      simpa using r1
    | array m e =>
      rw [hk] at hdesc
      simp only [descOk] at hdesc
      obtain ⟨xs, m', hm, rfl, hl, hxs, hE⟩ := DataW.trod_array hdesc.1 h
      obtain rfl : m' = fuel := by omega
      cases n with
      | zero => rw [hk] at hd; simp [K.dat] at hd
      | succ n =>
      rw [hk] at hd
      simp only [K.dat, Bool.and_eq_true] at hd
      have hsz : P.cellsOf t = m * P.cellsOf e := by rw [T.szOk t hne, hk]; rfl
      obtain ⟨ds, r1, r2, r3⟩ := reps_of (ty := ty) (M := memOf w []) m (fun _ => ty e) (fun i => (cs.drop (i * P.cellsOf e)).take (P.cellsOf e)) (fun i hi => by
        have he := hE i hi
        have hx : xs[i]? = some xs[i] := by simp [show i < xs.length by omega]
        rw [hx] at he
        exact trod_rep T m' _ _ _ n he hd.2)
      rw [chop m _ cs (by rw [hl, hsz])] at r1
      refine ⟨.agg ds, .agg cs.toArray, by simp [Value.cells], ?_, by simpa [D.wf] using r2⟩
      simp only [Rep, K.isAgg]
      refine ⟨trivial, cs.toArray, rfl, ?_⟩
      simp only [K.kids]
      have hrep : (List.range m).map (fun _ => ty e) = List.replicate m (ty e) := by
        apply List.ext_getElem <;> simp
      rw [hrep] at r1
      simpa using r1
    | slice e =>
      rw [hk] at hdesc
      simp only [descOk] at hdesc
      cases n with
      | zero => rw [hk] at hd; simp [K.dat] at hd
      | succ n =>
      rw [hk] at hd
      simp only [K.dat] at hd
      rcases DataW.trod_slice hdesc.1 h with ⟨rfl, rfl⟩ | ⟨a, len, cap, elems, rest, m', hm, rfl, rfl, _, hlc, hcm, hel, hE, _, _⟩
      · exact ⟨.slice false [], .slice none 0 0, by simp [Value.cells], by simp only [Rep]; exact ⟨e, none, 0, rfl, rfl, Nat.zero_le _, rfl, fun _ => rfl, .inl trivial⟩, by simp [D.wf, D.wfs]⟩
      · obtain rfl : m' = fuel := by omega
        have hcell : ∀ i, i < len → ∃ c1, w.cells? 0 (a.add (i * P.cellsOf e)) (P.cellsOf e) = some c1 ∧ ∃ y v, v.cells.toList = c1 ∧ Rep ty (memOf w []) y (ty e) v ∧ D.wf y := by
          intro i hi
          have he := hE i hi
          have hx : elems[i]? = some elems[i] := by simp [show i < elems.length by omega]
          rw [hx] at he
          simp only [Option.bind_eq_some_iff] at he
          obtain ⟨c1, hc1, he⟩ := he
          exact ⟨c1, hc1, trod_rep T m' _ _ _ n he hd⟩
        obtain ⟨ds, r1, r2, r3⟩ := reps_of (ty := ty) (M := memOf w []) len (fun _ => ty e) (fun i => (w.cells? 0 (a.add (i * P.cellsOf e)) (P.cellsOf e)).getD []) (fun i hi => by
          obtain ⟨c1, h1, y, v, h2, h3, h4⟩ := hcell i hi
          exact ⟨y, v, by rw [h1]; exact h2, h3, h4⟩)
        have hrep : (List.range len).map (fun _ => ty e) = List.replicate ds.length (ty e) := by
          rw [r3]; apply List.ext_getElem <;> simp
        rw [hrep] at r1
        refine ⟨.slice true ds, .slice (some a) len cap, by simp [Value.cells], ?_, by simp only [D.wf]; exact ⟨by rw [r3]; simp [Go.maxLen] at hcm; omega, r2⟩⟩
        simp only [Rep, r3]
        refine ⟨e, some a, cap, rfl, rfl, hlc, rfl, by simp, ?_⟩
        by_cases hl0 : len = 0
        · exact .inl (List.eq_nil_of_length_eq_zero (by omega))
        · right
          have hcsz : 0 < P.cellsOf e ∨ P.cellsOf e = 0 := by omega
          refine ⟨a, _, rfl, ?_, by rw [r3] at r1; exact r1⟩
          have hlen : ∀ i, i < len → ((w.cells? 0 (a.add (i * P.cellsOf e)) (P.cellsOf e)).getD []).length = P.cellsOf e := by
            intro i hi
            obtain ⟨c1, h1, _⟩ := hcell i hi
            rw [h1]
            simp only [World.cells?, Nat.zero_le, if_true] at h1
            simpa using mapM_len h1
          have hcells : ∀ i, i < len → ∀ j (v : Value), ((w.cells? 0 (a.add (i * P.cellsOf e)) (P.cellsOf e)).getD [])[j]? = some v → w.cell? ((a.add (i * P.cellsOf e)).add j) = some v := by
            intro i hi j v hv
            obtain ⟨c1, h1, _⟩ := hcell i hi
            rw [h1] at hv
            simp only [World.cells?, Nat.zero_le, if_true] at h1
            obtain ⟨k, hk1, hk2⟩ := mapM_get h1 j v hv
            have : k = j := by
              have := List.getElem?_eq_some_iff.1 hk1
              obtain ⟨_, h⟩ := this
              simpa using h.symm
            rw [← this]; exact hk2
          have hflat : ∀ (m : Nat) (g : Nat → List Value), (∀ i, i < m → (g i).length = P.cellsOf e) → ∀ (j : Nat) (v : Value), (((List.range m).map g).flatten)[j]? = some v → ∃ i r, i < m ∧ r < P.cellsOf e ∧ j = i * P.cellsOf e + r ∧ (g i)[r]? = some v := by
            intro m g
            induction m with
            | zero => intro _ j v hv; simp at hv
            | succ m ih =>
              intro hg j v hv
              have hl : (((List.range m).map g).flatten).length = m * P.cellsOf e := by
                rw [List.length_flatten, List.map_map]
                have : List.map (List.length ∘ g) (List.range m) = List.replicate m (P.cellsOf e) := by
                  apply List.ext_getElem
                  · simp
                  · intro i h1 h2; simp at h1; simp [hg i (by omega)]
                rw [this]; simp
              rw [List.range_succ, List.map_append, List.flatten_append] at hv
              by_cases hj : j < m * P.cellsOf e
              · rw [List.getElem?_append_left (by omega)] at hv
                obtain ⟨i, r, h1, h2, h3, h4⟩ := ih (fun i hi => hg i (by omega)) j v hv
                exact ⟨i, r, by omega, h2, h3, h4⟩
              · rw [List.getElem?_append_right (by omega), hl] at hv
                simp only [List.map_cons, List.map_nil, List.flatten_cons, List.flatten_nil, List.append_nil] at hv
                have hlt := (List.getElem?_eq_some_iff.1 hv).1
                rw [hg m (by omega)] at hlt
                exact ⟨m, j - m * P.cellsOf e, by omega, hlt, by omega, hv⟩
          have hat : ∀ (j : Nat) (v : Value), (((List.range len).map fun i => (w.cells? 0 (a.add (i * P.cellsOf e)) (P.cellsOf e)).getD []).flatten)[j]? = some v → w.cell? (a.add j) = some v := by
            intro j v hv
            obtain ⟨i, r, h1, h2, rfl, h4⟩ := hflat len _ hlen j v hv
            have := hcells i h1 r v h4
            have hadd : (a.add (i * P.cellsOf e)).add r = a.add (i * P.cellsOf e + r) := by
              cases a
              simp only [Addr.add]
              split <;> split <;> (try split) <;> simp_all <;> omega
            rw [← hadd]; exact this
          have h0 := dat_pos T n e hd
          have hspot : a.spot = none := by
            have h1 := hlen 0 (by omega)
            simp only [Nat.zero_mul] at h1
            have h2 := hcells 0 (by omega) 0
            simp only [Nat.zero_mul] at h2
            have h3 := h2 _ (List.getElem?_eq_getElem (by omega))
            have h4 : (a.add 0).add 0 = a := by simp [Addr.add]
            rw [h4] at h3
            exact spot_none h3
          refine ⟨hspot, fun j v hv => ?_⟩
          have := hat j v hv
          rw [addr_add hspot] at this
          simpa [memOf] using this
    | map a e => rw [hk] at hd; cases n <;> simp [K.dat] at hd
    | iface m => rw [hk] at hd; cases n <;> simp [K.dat] at hd
    | ptr e => rw [hk] at hd; cases n <;> simp [K.dat] at hd
    | func => rw [hk] at hd; cases n <;> simp [K.dat] at hd
    | bad => exact absurd hk hne
theorem agg_cells {v v' : Value} {t : Nat} {κ : K} {M : Mem} {y : D} (T : TyOk P ty) (hk : ty t = κ) {r : Reach} {base : Nat} {W : World} (hok : Value.okWide P W r base t v) (hd : K.dat ty 20 κ = true) (hc : v'.cells.toList = v.cells.toList) (hr : Rep ty M y κ v') : v' = v := by
  have hne : ty t ≠ .bad := dat_ne (n := 20) (hk ▸ hd)
  obtain ⟨i, hi⟩ := T t hne
  have hdesc := hi.desc
  rw [hk] at hdesc
  have hca : v'.cells = v.cells := Array.toList_inj.1 hc
  cases κ with
  | bool =>
    simp only [descOk] at hdesc
    cases v <;> simp [Value.okWide, Cell.okWide, Cell.ok, hdesc] at hok
    have := rep_bool hr
    subst this
    simpa [Value.cells] using hc
  | int k =>
    simp only [descOk] at hdesc
    cases v <;> simp [Value.okWide, Cell.okWide, Cell.ok, hdesc] at hok
    have := rep_int hr
    subst this
    simpa [Value.cells] using hc
  | str =>
    simp only [descOk] at hdesc
    cases v <;> simp [Value.okWide, Cell.okWide, Cell.ok, hdesc] at hok
    have := rep_str hr
    subst this
    simpa [Value.cells] using hc
  | struct fs =>
    simp only [descOk] at hdesc
    obtain ⟨fields, h1, _⟩ := hdesc
    simp only [Value.okWide, h1] at hok
    obtain ⟨cs, rfl, _⟩ := hok
    obtain ⟨ds, cs', _, rfl, _⟩ := Rep.isAgg hr rfl
    simp [Value.cells] at hca
    rw [hca]
  | array n e =>
    simp only [descOk] at hdesc
    simp only [Value.okWide, hdesc.1] at hok
    obtain ⟨cs, rfl, _⟩ := hok
    obtain ⟨ds, cs', _, rfl, _⟩ := Rep.isAgg hr rfl
    simp [Value.cells] at hca
    rw [hca]
  | slice e =>
    simp only [descOk] at hdesc
    have hv : ∃ a l c, v = .slice a l c := by
      cases v <;> simp [Value.okWide, Cell.okWide, Cell.ok, hdesc] at hok
      exact ⟨_, _, _, rfl⟩
    obtain ⟨a, l, c, rfl⟩ := hv
    have hs := (Rep.scal ty _ _ _ hr).1 rfl
    rw [cells_scal hs] at hca
    simpa [Value.cells] using hca
  | map a e => simp [K.dat] at hd
  | iface m => simp [K.dat] at hd
  | ptr e => simp [K.dat] at hd
  | func => simp [K.dat] at hd
  | bad => simp [K.dat] at hd
theorem trodAll_each (T : TyOk P ty) {W : World} {r : Reach} {base : Nat} : ∀ (ts : List Nat) (vs : List Value) (ds : List (DataW H)) (ps : List MemPlace), DataW.TrodAll enc P w 0 sp held ts vs ds ps → (∀ t ∈ ts, K.dat ty 20 (ty t) = true) →
    (∀ (j : Nat) t v, ts[j]? = some t → vs[j]? = some v → Value.okWide P W r base t v) → ∃ xs, Each ty (memOf w []) xs (ts.map ty) vs ∧ D.wfs xs
  | [], vs, ds, ps, h, _, _ => by
    obtain ⟨rfl, _, _⟩ := trodAll_nil h
    exact ⟨[], by simp [Each], by simp [D.wfs]⟩
  | t :: ts, vs, ds, ps, h, hd, hok => by
    obtain ⟨v, vs', d, ds', p, q, rfl, rfl, rfl, ⟨fuel, h1⟩, h2⟩ := trodAll_cons h
    obtain ⟨y, v', e1, e2, e3⟩ := trod_rep T fuel t _ _ 20 h1 (hd t (by simp))
    obtain rfl := agg_cells T rfl (hok 0 t v rfl rfl) (hd t (by simp)) e1 e2
    obtain ⟨xs, g1, g2⟩ := trodAll_each T ts vs' ds' q h2 (fun t ht => hd t (by simp [ht])) (fun j t v hj hv => hok (j + 1) t v (by simpa using hj) (by simpa using hv))
    exact ⟨y :: xs, by simp only [List.map_cons, Each]; exact ⟨_, _, _, _, rfl, rfl, e2, g1⟩, by simp only [D.wfs]; exact ⟨e3, g2⟩⟩
theorem each_hass {M : Mem} : ∀ {ds : List D} {κs : List K} {xs : List Value}, Each ty M ds κs xs → D.hass ty ds κs
  | [], _, _, h => by simp only [Each] at h; simp only [D.hass]; exact h.1
  | d :: ds, _, _, h => by
    simp only [Each] at h
    obtain ⟨κ, κs', x, rest, rfl, rfl, h1, h2⟩ := h
    simp only [D.hass]
    exact ⟨κ, κs', rfl, rep_has _ _ _ h1, each_hass h2⟩
theorem trodAll_stays {P : Program} (hl : laidOutB P = true) {W W' : World} (hb : Below W.heap.size W W') : ∀ (ts : List Nat) (vs : List Value) (ds : List (DataW H)) (ps : List MemPlace), DataW.TrodAll enc P W 0 (fun _ => true) true ts vs ds ps →
    (∀ t ∈ ts, P.readableRec t = true ∧ t < P.types.size) → (∀ x ∈ ps, x.block < W.heap.size) → ∀ sp : Nat → Bool, (∀ x ∈ ps, sp x.block = true) → DataW.TrodAll enc P W' 0 sp true ts vs ds ps
  | [], vs, ds, ps, h, _, _, sp, _ => by
    obtain ⟨rfl, rfl, rfl⟩ := trodAll_nil h
    rfl
  | t :: ts, vs, ds, ps, h, hr, hlt, sp, hsp => by
    obtain ⟨v, vs', d, ds', p, q, rfl, rfl, rfl, h1, h2⟩ := trodAll_cons h
    exact ⟨p, q, WideElems.Trod_stays hl (hr t (by simp)).1 (hr t (by simp)).2 h1 (fun x hx => hb.same (hlt x (by simp [hx]))) (fun x hx => hsp x (by simp [hx])),
      trodAll_stays hl hb ts vs' ds' q h2 (fun t ht => hr t (by simp [ht])) (fun x hx => hlt x (by simp [hx])) sp (fun x hx => hsp x (by simp [hx])), rfl⟩
theorem post_below {f : Func} {s : ChangeSpec} {apart fresh handsOn again : Bool} {W W' : World} {args : Array Value} {v : Value} {ds gs : List (DataW H)} {before pa pv : List MemPlace}
    (hW : DataW.Whole enc P f.params.toList s.vars apart W args.toList ds gs before)
    (hres : ∀ (b : Nat) (sp : Nat → Bool) (hd : Bool), DataW.TrodAll enc P W' b sp hd f.resultTypes.toList (v.resultList f.resultTypes.size) (s.fn H (ds ++ gs)).results [])
    (hargs : ∀ sp : Nat → Bool, (∀ p ∈ before, sp p.block = true) → DataW.TrodAll enc P W' 0 sp true f.params.toList args.toList (s.fn H (ds ++ gs)).args pa)
    (hvars : ∀ sp : Nat → Bool, (∀ p ∈ before, sp p.block = true) → DataW.TrodVars enc P W' sp s.vars (s.fn H (ds ++ gs)).vars pv)
    (hps : before = pa ++ pv) (hb : Below W.heap.size W W')
    (hok : ∀ (j : Nat) (t : TypeId) (r : Value), f.resultTypes[j]? = some t → (v.resultList f.resultTypes.size)[j]? = some r → Value.okWide P W' .any 0 t r) :
    s.post enc P f apart fresh handsOn again W args v W' := by
  have hlt : ∀ p ∈ before, p.block < W.heap.size := fun p hp => hW.lt p hp
  have hold : ∀ p ∈ before, (fun b => decide (b < W.heap.size)) p.block = true := fun p hp => by simpa using hlt p hp
  refine ⟨ds, gs, before, [], pa, pv, hW, hres _ _ _, hargs _ hold, hvars _ hold, World.keptBut_mono (fun p hp => ⟨hp, ?_⟩) (hb.frame (· ∈ before)), fun _ => ?_⟩
  · rw [hps, List.mem_append] at hp
    exact Or.inr hp
  · obtain ⟨_, _, _, _, _, hz, hn⟩ := hW
    refine ⟨hok, _, _, ([] ++ pa) ++ pv, ⟨[] ++ pa, pv, trodAll_append (hargs _ (fun _ _ => rfl)) (hres _ _ _), hvars _ (fun _ _ => rfl), rfl, ?_, ?_⟩, ?_⟩
    · intro b off hp
      have hin : MemPlace.cell b off ∈ before := by rw [hps]; simpa using hp
      rw [hb.frozen (hlt _ hin)]
      exact hz b off hin
    · intro ha
      have := hn ha
      rw [hps] at this
      simpa using this
    · intro p hp _
      rw [hps]
      simpa using hp
theorem law_calls (T : TyOk P ty) {I : World → Prop} {f : Nat} {fn : Func} {c : Con} (hc : Contract P ty I f fn c) (hp : c.plain = true) (hl : laidOutB P = true)
    (hts : fn.params.toList.all (fun t => K.dat ty 20 (ty t) && P.readableRec t && decide (t < P.types.size)) = true) {tb : Nat} (hr : fn.resultTypes = #[tb]) (hb : ty tb = .bool)
    (hrun : ∀ ds, D.hass ty ds (fn.params.toList.map ty) → D.wfs ds → c.run ds = some (.bool true)) {s : ChangeSpec} (hv : s.vars = [])
    (hs : ∀ ds : List (DataW H), ds.length = fn.params.toList.length → (s.fn H (ds ++ [])).results = [.lit (.bool true)] ∧ (s.fn H (ds ++ [])).args = ds ∧ (s.fn H (ds ++ [])).vars = [])
    {W : World} {base : Nat} {args : Array Value} {ds gs : List (DataW H)} {before : List MemPlace} {apart fresh handsOn again : Bool} (hI : I W)
    (hval : ∀ (j : Nat) t v, fn.params[j]? = some t → args[j]? = some v → Value.okWide P W .any base t v)
    (hW : DataW.Whole enc P fn.params.toList s.vars apart W args.toList ds gs before) :
    Calls P f args W fun e W' => ∃ v, e = .returned v ∧ s.post enc P fn apart fresh handsOn again W args v W' := by
  have hW' := hW
  obtain ⟨p, q, hA, hV, rfl, hfz, hnd⟩ := hW
  rw [hv] at hV
  obtain ⟨rfl, rfl⟩ := trodVars_none hV
  simp only [List.all_eq_true, Bool.and_eq_true, decide_eq_true_eq] at hts
  obtain ⟨xs, h1, h2⟩ := trodAll_each (W := W) (r := .any) (base := base) T _ _ _ _ hA (fun t ht => (hts t ht).1.1) (fun j t v hj hv => hval j t v (by simpa using hj) (by simpa using hv))
  have hlen : ds.length = fn.params.toList.length := by
    clear hW' hs hval h1 hrun hts hr hc hfz hnd
    generalize fn.params.toList = ts at hA
    generalize args.toList = vs at hA
    induction ts generalizing vs ds p with
    | nil => obtain ⟨_, rfl, _⟩ := trodAll_nil hA; rfl
    | cons t ts ih =>
      obtain ⟨v, vs', d, ds', p, q, rfl, rfl, rfl, _, h2⟩ := trodAll_cons hA
      simp [ih _ _ h2]
  obtain ⟨s1, s2, s3⟩ := hs ds hlen
  have hrun' := hrun xs (each_hass h1) h2
  have hcall := hc [] W xs args.toList (.bool true) hI (by simp) h1 hrun'
  refine hcall.mono ?_
  rintro e W' ⟨v, rfl, hbl, hres⟩
  rw [if_pos hp] at hres
  have hres := hres (memOf W' [])
  simp only [ResRep, hr, hb, Rep] at hres
  obtain ⟨_, rfl⟩ := hres
  obtain ⟨i, hi⟩ := T tb (by rw [hb]; simp)
  have hdesc := hi.desc
  rw [hb] at hdesc
  simp only [descOk] at hdesc
  refine ⟨_, rfl, post_below (pa := p) (pv := []) hW' ?_ ?_ ?_ rfl hbl ?_⟩
  · intro b sp hd
    rw [s1, hr]
    exact trodAll_mk1 (shut_bool hdesc _)
  · intro sp hsp
    rw [s2]
    refine trodAll_stays hl hbl _ _ _ _ hA (fun t ht => ⟨(hts t ht).1.2, (hts t ht).2⟩) (fun x hx => hW'.lt x (by simp [hx])) sp (fun x hx => hsp x (by simp [hx]))
  · intro sp _
    rw [hv, s3]
    rfl
  · intro j t r hj hr'
    rw [hr] at hj hr'
    cases j with
    | zero =>
      simp at hj
      subst hj
      simp [Value.resultList] at hr'
      subst hr'
      exact okWide_bool_mk hdesc _
    | succ j => simp at hj
end
end Go.AM
namespace Go.AM
open Go
theorem ct {c : Bool} {a b R : Option D} (h : c = true) (k : a = R) : cond c a b = R := by subst h; exact k
theorem cf {c : Bool} {a b R : Option D} (h : c = false) (k : b = R) : cond c a b = R := by subst h; exact k
theorem bdS {o : Option D} {x : D} {f : D → Option D} {R : Option D} (h : o = some x) (k : f x = R) : bd o f = R := by subst h; exact k
theorem bdBS {x : D} {g : Bool} {f : Bool → Option D} {R : Option D} (h : x = .bool g) (k : f g = R) : bdB x f = R := by subst h; exact k
theorem goS_rule {S X : Type} {st : S → (S → Option D) → (X → Option D) → Option D} {K : X → Option D} (Inv : S → Prop) (μ : S → Nat) (Post : Option D → Prop)
    (h : ∀ s rec, Inv s → (∀ s', Inv s' → μ s' < μ s → Post (rec s')) → Post (st s rec K)) : ∀ N s, Inv s → μ s ≤ N → Post (goS st N s K)
  | 0, s, hi, hm => by
    simp only [goS]
    exact h s _ hi (fun s' _ h' => by omega)
  | N + 1, s, hi, hm => by
    simp only [goS]
    exact h s _ hi (fun s' hi' h' => goS_rule Inv μ Post h N s' hi' (by omega))
theorem ad64 {a b : Int} (h1 : -9223372036854775808 ≤ a + b) (h2 : a + b ≤ 9223372036854775807) : ad .i64 a b = a + b := by
  have h : ∀ n : Int, -9223372036854775808 ≤ n → n ≤ 9223372036854775807 → IntKind.i64.wrap n = n := by
    intro n h1 h2
    simp [IntKind.wrap, IntKind.signed, IntKind.bits]
    omega
  exact h _ h1 h2
theorem sb64 {a b : Int} (h1 : -9223372036854775808 ≤ a - b) (h2 : a - b ≤ 9223372036854775807) : sb .i64 a b = a - b := by
  have := ad64 (a := a) (b := -b) (by omega) (by omega)
  simp only [ad, sb] at this ⊢
  rw [show a - b = a + -b by omega]; exact this
@[simp] theorem ltI_t {a b : Int} : (ltI a b = true) = (a < b) := by simp [ltI]
@[simp] theorem ltI_f {a b : Int} : (ltI a b = false) = (b ≤ a) := by simp [ltI]
@[simp] theorem leI_t {a b : Int} : (leI a b = true) = (a ≤ b) := by simp [leI]
@[simp] theorem leI_f {a b : Int} : (leI a b = false) = (b < a) := by simp [leI]
@[simp] theorem gtI_t {a b : Int} : (gtI a b = true) = (b < a) := by simp [gtI]
@[simp] theorem gtI_f {a b : Int} : (gtI a b = false) = (a ≤ b) := by simp [gtI]
@[simp] theorem geI_t {a b : Int} : (geI a b = true) = (b ≤ a) := by simp [geI]
@[simp] theorem geI_f {a b : Int} : (geI a b = false) = (a < b) := by simp [geI]
@[simp] theorem eqI_t {a b : Int} : (eqI a b = true) = (a = b) := by simp [eqI]
@[simp] theorem eqI_f {a b : Int} : (eqI a b = false) = (a ≠ b) := by simp [eqI]
@[simp] theorem neI_t {a b : Int} : (neI a b = true) = (a ≠ b) := by simp [neI]
@[simp] theorem neI_f {a b : Int} : (neI a b = false) = (a = b) := by simp [neI]
@[simp] theorem inb_t {a : Int} {n : Nat} : (inb a n = true) = (0 ≤ a ∧ a < (n : Int)) := by simp [inb]
@[simp] theorem leN_t {a b : Nat} : (leN a b = true) = (a ≤ b) := by simp [leN]
@[simp] theorem eqN_t {a b : Nat} : (eqN a b = true) = (a = b) := by simp [eqN]
@[simp] theorem mx_t {a : Nat} : (mx a = true) = (a ≤ 1073741824) := by simp only [mx, maxLen]; exact propext decide_eq_true_iff
@[simp] theorem nI_eq {n : Nat} : nI n = (n : Int) := rfl
theorem ix_eq {l : List D} {n : Nat} (h : n < l.length) : ix l n = l[n] := by simp [ix, List.getD_eq_getElem?_getD, h]
theorem ix_map {α : Type} {l : List α} {f : α → D} {n : Nat} (h : n < l.length) : ix (l.map f) n = f l[n] := by rw [ix_eq (by simpa using h)]; simp
@[simp] theorem eqS_t {a b : ByteArray} : (eqS a b = true) = (a = b) := by
  simp only [eqS, beq_iff_eq, eq_iff_iff]
  constructor
  · intro h
    have h1 : ∀ x : ByteArray, x.toList = x.data.toList := fun x => by
      rw [ByteArray.toList]
      have key : ∀ (n i : Nat) (r : List UInt8), x.size - i = n → i ≤ x.size → ByteArray.toList.loop x i r = r.reverse ++ x.data.toList.drop i := by
        intro n
        induction n with
        | zero =>
          intro i r hn hi
          have : i = x.size := by omega
          unfold ByteArray.toList.loop
          rw [if_neg (by omega), List.drop_of_length_le (by simp; omega)]
          simp
        | succ n ih =>
          intro i r hn hi
          unfold ByteArray.toList.loop
          have hlt : i < x.size := by omega
          rw [if_pos hlt, ih (i + 1) _ (by omega) (by omega)]
          have hd : x.data.toList.drop i = x.get! i :: x.data.toList.drop (i + 1) := by
            rw [List.drop_eq_getElem_cons (by simpa using hlt)]
            congr 1
            cases x; rename_i a
            simp only [ByteArray.get!]
            rw [Array.getElem!_eq_getD, Array.getD_eq_getD_getElem?]
            have : i < a.size := hlt
            simp [this]
          rw [hd]; simp
      have := key x.size 0 [] (by omega) (by omega)
      simpa using this
    rw [h1, h1] at h
    cases a; cases b
    simp only [ByteArray.mk.injEq]
    exact Array.toList_inj.1 h
  · rintro rfl; rfl
@[simp] theorem eqS_f {a b : ByteArray} : (eqS a b = false) = (a ≠ b) := by
  rw [← Bool.not_eq_true, eqS_t]
@[simp] theorem eqS_self {a : ByteArray} : eqS a a = true := by rw [eqS_t]
@[simp] theorem at_agg (l : List D) (i : Nat) : (D.agg l).at i = l.getD i .nilFunc := rfl
@[simp] theorem at_tup (l : List D) (i : Nat) : (D.tup l).at i = l.getD i .nilFunc := rfl
@[simp] theorem i_int (k : IntKind) (n : Int) : (D.int k n).i = n := rfl
@[simp] theorem s_str (s : ByteArray) : (D.str s).s = s := rfl
@[simp] theorem b_bool (b : Bool) : (D.bool b).b = b := rfl
@[simp] theorem elems_slice (b : Bool) (l : List D) : (D.slice b l).elems = l := rfl
@[simp] theorem nn_slice (b : Bool) (l : List D) : (D.slice b l).nn = b := rfl
@[simp] theorem parts_agg (l : List D) : (D.agg l).parts = l := rfl
structure Ev where
  kind : Int
  id : Int
  name : ByteArray
  time : Int
  len : Int
  sum : List Int
def sumD (l : List Int) : D := .agg (l.map (D.int .u8))
def Ev.enc (e : Ev) : D := da [di e.kind, di e.id, dS e.name, di e.time, di e.len, sumD e.sum]
structure Fl where
  id : Int
  name : ByteArray
  data : ByteArray
  sealed : Bool
  until_ : Int
  nn : Bool
  holds : List ByteArray
def Fl.enc (f : Fl) : D := da [di f.id, dS f.name, dS f.data, db f.sealed, di f.until_, dl f.nn (f.holds.map dS)]
structure En where
  file : Fl
  len : Int
  sum : List Int
def En.enc (x : En) : D := da [x.file.enc, di x.len, sumD x.sum]
structure Bk where
  nn : Bool
  es : List En
  last : Int
  floor : Int
def Bk.enc (b : Bk) : D := da [dl b.nn (b.es.map En.enc), di b.last, di b.floor]
def i64ok (n : Int) : Prop := -9223372036854775808 ≤ n ∧ n ≤ 9223372036854775807
structure Ev.ok (e : Ev) : Prop where
  kind : i64ok e.kind
  id : i64ok e.id
  time : i64ok e.time
  len : i64ok e.len
  sum : e.sum.length = 32
section
variable {ty : Nat → K}
theorem hass_struct {d : D} {fs : List Nat} (h : D.has ty d (.struct fs)) : ∃ ds, d = .agg ds ∧ D.hass ty ds (fs.map ty) := by
  cases d with
  | agg ds => simp only [D.has] at h; exact ⟨ds, rfl, h.2⟩
  | slice nn ds => simp only [D.has] at h; obtain ⟨e, h, _⟩ := h; simp at h
  | iface t x => simp only [D.has] at h; obtain ⟨⟨m, h⟩, _⟩ := h; simp at h
  | bool b => simp [D.has] at h
  | int k n => simp [D.has] at h
  | str s => simp [D.has] at h
  | tup l => simp [D.has] at h
  | nilIface => simp [D.has] at h
  | fn f => simp [D.has] at h
  | nilFunc => simp [D.has] at h
  | nilPtr => simp [D.has] at h
  | nilMap => simp [D.has] at h
theorem hass_array {d : D} {n e : Nat} (h : D.has ty d (.array n e)) : ∃ ds, d = .agg ds ∧ D.hass ty ds (List.replicate n (ty e)) := by
  cases d with
  | agg ds => simp only [D.has] at h; exact ⟨ds, rfl, h.2⟩
  | slice nn ds => simp only [D.has] at h; obtain ⟨e, h, _⟩ := h; simp at h
  | iface t x => simp only [D.has] at h; obtain ⟨⟨m, h⟩, _⟩ := h; simp at h
  | bool b => simp [D.has] at h
  | int k n => simp [D.has] at h
  | str s => simp [D.has] at h
  | tup l => simp [D.has] at h
  | nilIface => simp [D.has] at h
  | fn f => simp [D.has] at h
  | nilFunc => simp [D.has] at h
  | nilPtr => simp [D.has] at h
  | nilMap => simp [D.has] at h
theorem hass_slice {d : D} {e : Nat} (h : D.has ty d (.slice e)) : ∃ nn ds, d = .slice nn ds ∧ D.hass ty ds (List.replicate ds.length (ty e)) ∧ (nn = false → ds = []) := by
  cases d with
  | slice nn ds => simp only [D.has] at h; obtain ⟨e', h1, h2, h3⟩ := h; simp at h1; subst h1; exact ⟨nn, ds, rfl, h2, h3⟩
  | agg ds => simp [D.has, K.isAgg] at h
  | iface t x => simp only [D.has] at h; obtain ⟨⟨m, h⟩, _⟩ := h; simp at h
  | bool b => simp [D.has] at h
  | int k n => simp [D.has] at h
  | str s => simp [D.has] at h
  | tup l => simp [D.has] at h
  | nilIface => simp [D.has] at h
  | fn f => simp [D.has] at h
  | nilFunc => simp [D.has] at h
  | nilPtr => simp [D.has] at h
  | nilMap => simp [D.has] at h
theorem hass_ints {k : IntKind} : ∀ {ds : List D} {n : Nat}, D.hass ty ds (List.replicate n (.int k)) → ∃ l : List Int, ds = l.map (D.int k) ∧ l.length = n
  | [], n, h => by
    simp only [D.hass] at h
    cases n with
    | zero => exact ⟨[], rfl, rfl⟩
    | succ n => simp [List.replicate_succ] at h
  | d :: ds, n, h => by
    simp only [D.hass] at h
    obtain ⟨κ, κs, h1, h2, h3⟩ := h
    cases n with
    | zero => simp at h1
    | succ n =>
      simp only [List.replicate_succ, List.cons.injEq] at h1
      obtain ⟨rfl, rfl⟩ := h1
      obtain ⟨l, rfl, rfl⟩ := hass_ints h3
      obtain ⟨x, rfl⟩ := has_int h2
      exact ⟨x :: l, rfl, rfl⟩
theorem hass_strs : ∀ {ds : List D} {n : Nat}, D.hass ty ds (List.replicate n .str) → ∃ l : List ByteArray, ds = l.map dS ∧ l.length = n
  | [], n, h => by
    simp only [D.hass] at h
    cases n with
    | zero => exact ⟨[], rfl, rfl⟩
    | succ n => simp [List.replicate_succ] at h
  | d :: ds, n, h => by
    simp only [D.hass] at h
    obtain ⟨κ, κs, h1, h2, h3⟩ := h
    cases n with
    | zero => simp at h1
    | succ n =>
      simp only [List.replicate_succ, List.cons.injEq] at h1
      obtain ⟨rfl, rfl⟩ := h1
      obtain ⟨l, rfl, rfl⟩ := hass_strs h3
      obtain ⟨x, rfl⟩ := has_str h2
      exact ⟨x :: l, rfl, rfl⟩
theorem wf_i64 {n : Int} (h : D.wf (.int .i64 n)) : i64ok n := by
  simp only [D.wf, IntKind.min, IntKind.max, IntKind.signed, IntKind.bits] at h
  unfold i64ok
  simp at h
  omega
theorem hass1 {d : D} {ds : List D} {κ : K} {κs : List K} (h : D.hass ty (d :: ds) (κ :: κs)) : D.has ty d κ ∧ D.hass ty ds κs := by
  simp only [D.hass] at h
  obtain ⟨_, _, h1, h2, h3⟩ := h
  simp only [List.cons.injEq] at h1
  obtain ⟨rfl, rfl⟩ := h1
  exact ⟨h2, h3⟩
theorem hass0 {ds : List D} (h : D.hass ty ds []) : ds = [] := by
  cases ds with
  | nil => rfl
  | cons d ds => simp [D.hass] at h
theorem hassC {ds : List D} {κ : K} {κs : List K} (h : D.hass ty ds (κ :: κs)) : ∃ d ds', ds = d :: ds' ∧ D.has ty d κ ∧ D.hass ty ds' κs := by
  cases ds with
  | nil => simp [D.hass] at h
  | cons d ds => exact ⟨d, ds, rfl, hass1 h⟩
theorem hass_rep {α : Type} {f : α → D} {κ : K} {Q : α → Prop} (one : ∀ d, D.has ty d κ → D.wf d → ∃ x, d = f x ∧ Q x) : ∀ {ds : List D} {n : Nat}, D.hass ty ds (List.replicate n κ) → D.wfs ds → ∃ l : List α, ds = l.map f ∧ l.length = n ∧ ∀ x ∈ l, Q x
  | [], n, h, _ => by
    cases n with
    | zero => exact ⟨[], rfl, rfl, by simp⟩
    | succ n => simp [List.replicate_succ, D.hass] at h
  | d :: ds, n, h, hw => by
    cases n with
    | zero => simp [D.hass] at h
    | succ n =>
      rw [List.replicate_succ] at h
      obtain ⟨h1, h2⟩ := hass1 h
      simp only [D.wfs] at hw
      obtain ⟨x, rfl, hx⟩ := one d h1 hw.1
      obtain ⟨l, rfl, rfl, hl⟩ := hass_rep one h2 hw.2
      exact ⟨x :: l, rfl, rfl, by simpa using ⟨hx, hl⟩⟩
theorem ev_of {d : D} {fs : List Nat} {e : Nat} (hf : fs.map ty = [.int .i64, .int .i64, .str, .int .i64, .int .i64, .array 32 e]) (h5 : ty e = .int .u8) (h : D.has ty d (.struct fs)) (hw : D.wf d) : ∃ e : Ev, d = e.enc ∧ e.ok := by
  obtain ⟨ds, rfl, hh⟩ := hass_struct h
  clear h
  rw [hf] at hh
  obtain ⟨d0, _, rfl, h0, hh⟩ := hassC hh
  obtain ⟨d1, _, rfl, h1, hh⟩ := hassC hh
  obtain ⟨d2, _, rfl, h2, hh⟩ := hassC hh
  obtain ⟨d3, _, rfl, h3, hh⟩ := hassC hh
  obtain ⟨d4, _, rfl, h4, hh⟩ := hassC hh
  obtain ⟨d5, _, rfl, h5', hh⟩ := hassC hh
  obtain rfl := hass0 hh
  obtain ⟨x0, rfl⟩ := has_int h0
  obtain ⟨x1, rfl⟩ := has_int h1
  obtain ⟨x2, rfl⟩ := has_str h2
  obtain ⟨x3, rfl⟩ := has_int h3
  obtain ⟨x4, rfl⟩ := has_int h4
  obtain ⟨ds5, rfl, h6⟩ := hass_array h5'
  rw [h5] at h6
  obtain ⟨l, rfl, hl⟩ := hass_ints h6
  rw [D.wf] at hw
  simp only [D.wfs] at hw
  exact ⟨⟨x0, x1, x2, x3, x4, l⟩, rfl, wf_i64 hw.1, wf_i64 hw.2.1, wf_i64 hw.2.2.2.1, wf_i64 hw.2.2.2.2.1, hl⟩
end
end Go.AM
namespace Go.AM.SD
open Go Go.AM
def zeros : List Int := List.replicate 32 0
theorem eqvs_ints (n : Nat) : ∀ (a b : List Int), a.length = b.length → eqvs (D.eqv ty (n + 1)) (a.map (D.int .u8)) (b.map (D.int .u8)) (List.replicate a.length (.int .u8)) = some (a == b)
  | [], [], _ => rfl
  | x :: a, y :: b, h => by
    have ih := eqvs_ints n a b (by simpa using h)
    simp only [List.map_cons, List.length_cons, List.replicate_succ, eqvs]
    have h1 : D.eqv ty (n + 1) (D.int .u8 x) (D.int .u8 y) (.int .u8) = some (x == y) := rfl
    rw [h1]
    cases hxy : x == y
    · simp [hxy]
    · simp only [ih]; simp [hxy]
  | [], _ :: _, h => by simp at h
  | _ :: _, [], h => by simp at h
theorem ty5 : ty 5 = .int .u8 := rfl
theorem eqv_sum (n : Nat) {a b : List Int} (ha : a.length = 32) (hb : b.length = 32) : D.eqv ty (n + 2) (sumD a) (sumD b) (.array 32 5) = some (a == b) := by
  have := eqvs_ints n a b (by omega)
  rw [ha] at this
  simp only [sumD, D.eqv, ty5]
  exact this
def evEq (a b : Ev) : Bool := a.kind == b.kind && (a.id == b.id && (a.name == b.name && (a.time == b.time && (a.len == b.len && a.sum == b.sum))))
theorem eqv_ev {a b : Ev} (ha : a.sum.length = 32) (hb : b.sum.length = 32) : D.eqv ty eqDepth a.enc b.enc (.struct [34, 3, 9, 3, 3, 36]) = some (evEq a b) := by
  have h := eqv_sum 13 ha hb
  have hk : List.map ty [34, 3, 9, 3, 3, 36] = [.int .i64, .int .i64, .str, .int .i64, .int .i64, .array 32 5] := rfl
  have e1 : ∀ x y : Int, D.eqv ty 15 (.int .i64 x) (.int .i64 y) (.int .i64) = some (x == y) := fun _ _ => rfl
  have e2 : ∀ x y : ByteArray, D.eqv ty 15 (.str x) (.str y) .str = some (x == y) := fun _ _ => rfl
  have e0 : D.eqv ty eqDepth a.enc b.enc (.struct [34, 3, 9, 3, 3, 36]) = eqvs (D.eqv ty 15) [di a.kind, di a.id, dS a.name, di a.time, di a.len, sumD a.sum] [di b.kind, di b.id, dS b.name, di b.time, di b.len, sumD b.sum] (List.map ty [34, 3, 9, 3, 3, 36]) := rfl
  rw [e0, hk]
  simp only [eqvs, e1, e2, h]
  unfold evEq
  cases a.kind == b.kind
  · rfl
  cases a.id == b.id
  · rfl
  cases a.name == b.name
  · rfl
  cases a.time == b.time
  · rfl
  cases a.len == b.len
  · rfl
  cases a.sum == b.sum <;> rfl
theorem decode_pos (s : ByteArray) (i : Nat) : 1 ≤ (Utf8.decode s i).2 := by
  unfold Utf8.decode
  simp only []
  repeat' split
  all_goals simp
def runesAt (s : ByteArray) : Nat → Nat → List (Nat × Nat)
  | 0, _ => []
  | f + 1, p => if p < s.size then (p, (Utf8.decode s p).1) :: runesAt s f (p + (Utf8.decode s p).2) else []
def runes (s : ByteArray) : List (Nat × Nat) := runesAt s s.size 0
theorem runesAt_end {s : ByteArray} {p : Nat} (h : s.size ≤ p) (f : Nat) : runesAt s f p = [] := by
  cases f with
  | zero => rfl
  | succ f => simp [runesAt]; omega
theorem runesAt_more {s : ByteArray} : ∀ (f g p : Nat), s.size - p ≤ f → s.size - p ≤ g → runesAt s f p = runesAt s g p
  | 0, g, p, h, _ => by rw [runesAt_end (by omega), runesAt_end (by omega)]
  | f + 1, 0, p, h, h' => by rw [runesAt_end (by omega), runesAt_end (by omega)]
  | f + 1, g + 1, p, h, h' => by
    have := decode_pos s p
    simp only [runesAt]
    split
    · rw [runesAt_more f g _ (by omega) (by omega)]
    · rfl
def runesFrom (s : ByteArray) (p : Nat) : List (Nat × Nat) := runesAt s (s.size - p) p
theorem runesFrom_step {s : ByteArray} {p : Nat} (h : p < s.size) : runesFrom s p = (p, (Utf8.decode s p).1) :: runesFrom s (p + (Utf8.decode s p).2) := by
  have h1 := decode_pos s p
  unfold runesFrom
  rw [show s.size - p = (s.size - p - 1) + 1 by omega, runesAt, if_pos h]
  congr 1
  exact runesAt_more _ _ _ (by omega) (by omega)
theorem runesFrom_end {s : ByteArray} {p : Nat} (h : s.size ≤ p) : runesFrom s p = [] := runesAt_end h _
theorem runesAt_len (s : ByteArray) : ∀ (f p : Nat), (runesAt s f p).length ≤ f
  | 0, _ => by simp [runesAt]
  | f + 1, p => by
    simp only [runesAt]
    split
    · have := runesAt_len s f (p + (Utf8.decode s p).2)
      simp; omega
    · simp
theorem runes_len (s : ByteArray) : (runes s).length ≤ s.size := runesAt_len _ _ _
theorem count_spec (s : ByteArray) (hs : s.size ≤ 1048576) : F79.s FUEL s = some (di ((runes s).length : Int)) := by
  unfold F79.s
  have hl := runes_len s
  refine goS_rule (fun t => ∃ k p : Nat, t = ⟨k, s, p⟩ ∧ k + (runesFrom s p).length = (runes s).length) (fun t => s.size - t.n3) (fun o => o = some (di ((runes s).length : Int))) ?_ _ _ ⟨0, 0, rfl, by simp [runes, runesFrom]⟩ (by simp [FUEL]; omega)
  rintro _ rec ⟨k, p, rfl, hk⟩ hrec
  simp only [F79.st3]
  have hp := decode_pos s p
  by_cases h : p < s.size
  · refine ct (by simpa using h) ?_
    rw [runesFrom_step h] at hk
    simp at hk
    refine hrec _ ⟨k + 1, p + (Utf8.decode s p).2, ?_, by omega⟩ (by simp; omega)
    rw [ad64 (by omega) (by omega)]; rfl
  · refine cf (by simpa using h) ?_
    rw [runesFrom_end (by omega)] at hk
    simp at hk
    simp [hk]
def oddR (r : Int) : Bool := decide (r < 32) || decide (r = 47) || (decide (127 ≤ r) && decide (r ≤ 159)) || decide (r = 65533)
theorem odd_spec (r : Int) : F78.s FUEL r = some (db (oddR r)) := by
  unfold F78.s oddR
  by_cases h1 : r < 32
  · exact ct (by simpa using h1) (by simp [h1])
  refine cf (by simp; omega) ?_
  by_cases h2 : r = 47
  · exact ct (by simpa using h2) (by simp [h2])
  refine cf (by simpa using h2) ?_
  by_cases h3 : 127 ≤ r
  · refine ct (by simpa using h3) ?_
    by_cases h4 : r ≤ 159
    · exact ct (by simpa using h4) (by simp [h3, h4])
    · exact cf (by simp; omega) (by simp [h1, h2, h3, h4, eqI]; rw [Bool.eq_iff_iff]; simp)
  · exact cf (by simp; omega) (by simp [h1, h2, h3, eqI]; rw [Bool.eq_iff_iff]; simp)
theorem eqv_bool (n : Nat) (a b : Bool) : D.eqv ty (n + 1) (.bool a) (.bool b) .bool = some (a == b) := rfl
def nameB (s : ByteArray) : Bool := decide (0 < (runes s).length) && (decide ((runes s).length ≤ 24) && ((runes s).all (fun r => !oddR r.2) && (decide (byteAt s 0 ≠ 32) && decide (byteAt s (s.size - 1) ≠ 32))))
theorem name_spec (s : ByteArray) (hs : s.size ≤ 1048576) : F49.s FUEL s = some (db (nameB s)) := by
  unfold F49.s
  refine bdS (count_spec s hs) ?_
  have hl := runes_len s
  unfold nameB
  by_cases h1 : 0 < (runes s).length
  · refine ct (by simpa using h1) ?_
    by_cases h2 : (runes s).length ≤ 24
    · refine ct (by simp; omega) ?_
      simp only [h1, h2, decide_true, Bool.true_and]
      have hsz : 0 < s.size := by omega
      have tail : ∀ b : Bool, (cond (inb 0 s.size) (cond (neI (byteAt s 0) 32) (cond (inb (sb .i64 (nI s.size) 1) s.size) (some (db (neI (byteAt s (sb .i64 (nI s.size) 1).toNat) 32))) none) (some (db false))) none) = some (db (decide (byteAt s 0 ≠ 32) && decide (byteAt s (s.size - 1) ≠ 32))) := by
        intro _
        have hsb : sb .i64 (nI s.size) 1 = ((s.size - 1 : Nat) : Int) := by
          simp only [nI_eq]
          rw [sb64 (by omega) (by omega)]; omega
        rw [hsb]
        refine ct (by simp; omega) ?_
        by_cases h3 : byteAt s 0 = 32
        · exact cf (by simp [h3]) (by simp [h3])
        · refine ct (by simpa using h3) (ct (by simp; omega) ?_)
          simp only [Int.toNat_natCast]
          rw [show neI (byteAt s (s.size - 1)) 32 = decide (byteAt s (s.size - 1) ≠ 32) by simp [neI, bne, Bool.beq_eq_decide_eq]]
          simp [h3]
      refine goS_rule (fun t => ∃ p : Nat, t = ⟨true, s, p⟩ ∧ (runes s).all (fun r => !oddR r.2) = (runesFrom s p).all (fun r => !oddR r.2)) (fun t => s.size - t.n4) (fun o => o = some (db ((runes s).all (fun r => !oddR r.2) && (decide (byteAt s 0 ≠ 32) && decide (byteAt s (s.size - 1) ≠ 32))))) ?_ _ _ ⟨0, rfl, by simp [runes, runesFrom]⟩ (by simp [FUEL]; omega)
      rintro _ rec ⟨p, rfl, hk⟩ hrec
      simp only [F49.st103_2]
      have hp := decode_pos s p
      by_cases h : p < s.size
      · refine ct (by simpa using h) (bdS (odd_spec _) ?_)
        rw [runesFrom_step h] at hk
        simp only [List.all_cons] at hk
        refine bdS (x := db (oddR (Utf8.decode s p).1)) ?_ ?_
        · rw [show eqDepth = 15 + 1 from rfl, eqv_bool]
          cases oddR _ <;> rfl
        · cases ho : oddR (Utf8.decode s p).1 with
          | true =>
            refine ct rfl ?_
            show cond (ltI (nI p) 0) _ (some (db false)) = _
            refine cf (by simp) ?_
            rw [hk, ho]
            simp
          | false =>
            refine cf rfl ?_
            refine hrec _ ⟨_, rfl, ?_⟩ (by simp; omega)
            rw [hk, ho]; simp
      · refine cf (by simpa using h) ?_
        rw [runesFrom_end (by omega)] at hk
        simp only [List.all_nil] at hk
        rw [hk, Bool.true_and]
        exact tail true
    · refine cf (by simp; omega) (by simp [h2])
  · refine cf (by simp only [gtI_f, i_int]; omega) (by simp [h1])
end Go.AM.SD
namespace Go.AM.SD
open Go Go.AM
def findI {α : Type} (p : α → Bool) (l : List α) : Int := match l.findIdx? p with | some i => i | none => -1
theorem findIdx_none_of {α : Type} {p : α → Bool} {l : List α} (h : ∀ i (hi : i < l.length), p l[i] = false) : l.findIdx? p = none := by
  rw [List.findIdx?_eq_none_iff]
  intro x hx
  obtain ⟨i, hi, rfl⟩ := List.getElem_of_mem hx
  simpa using h i hi
theorem findIdx_some_of {α : Type} {p : α → Bool} {l : List α} {k : Nat} (hk : k < l.length) (h : ∀ i (hi : i < l.length), i < k → p l[i] = false) (h' : p l[k] = true) : l.findIdx? p = some k := by
  rw [List.findIdx?_eq_some_iff_getElem]
  exact ⟨hk, h', fun j hj => by simp [h j (by omega) hj]⟩
theorem index_spec (nn : Bool) (l : List ByteArray) (x : ByteArray) (hl : l.length ≤ 1048576) : F89.s FUEL (dl nn (l.map dS)) x = some (di (findI (fun y => decide (x = y)) l)) := by
  unfold F89.s
  refine goS_rule (fun t => ∃ k : Nat, t = ⟨dl nn (l.map dS), x, nI l.length, (k : Int)⟩ ∧ k ≤ l.length ∧ ∀ i (h : i < l.length), i < k → decide (x = l[i]) = false) (fun t => l.length - t.i4.toNat) (fun o => o = some (di (findI (fun y => decide (x = y)) l))) ?_ _ _ ⟨0, by simp, by omega, by omega⟩ (by simp [FUEL]; omega)
  rintro _ rec ⟨k, rfl, hk, hs⟩ hrec
  simp only [F89.st2]
  by_cases h1 : k < l.length
  · refine ct (by simp; omega) (ct (by simp; omega) ?_)
    simp only [elems_slice, Int.toNat_natCast, ix_map h1, s_str]
    by_cases h2 : x = l[k]
    · refine ct (by simpa using h2) ?_
      rw [findI, findIdx_some_of h1 hs (by simpa using h2)]
    · refine cf (by simpa using h2) (hrec _ ⟨k + 1, ?_, by omega, ?_⟩ ?_)
      · rw [ad64 (by omega) (by omega)]; rfl
      · intro i hi hik
        by_cases hik' : i = k
        · subst hik'; simpa using h2
        · exact hs i hi (by omega)
      · rw [ad64 (by omega) (by omega)]; simp; omega
  · refine cf (by simp; omega) ?_
    rw [findI, findIdx_none_of (fun i hi => hs i hi (by omega))]
theorem findI_nonneg {α : Type} {p : α → Bool} {l : List α} : 0 ≤ findI p l ↔ l.any p = true := by
  unfold findI
  constructor
  · intro h0
    split at h0
    · rename_i i h
      rw [List.findIdx?_eq_some_iff_getElem] at h
      obtain ⟨hi, h1, _⟩ := h
      exact List.any_eq_true.2 ⟨l[i], List.getElem_mem hi, h1⟩
    · omega
  · intro h0
    split
    · omega
    · rename_i h
      rw [List.findIdx?_eq_none_iff] at h
      rw [List.any_eq_false.2 fun y hy => by simpa using h y hy] at h0
      simp at h0
theorem contains_spec (nn : Bool) (l : List ByteArray) (x : ByteArray) (hl : l.length ≤ 1048576) : F84.s FUEL (dl nn (l.map dS)) x = some (db (l.any fun y => decide (x = y))) := by
  unfold F84.s
  refine bdS (index_spec nn l x hl) ?_
  have : geI (di (findI (fun y => decide (x = y)) l)).i 0 = l.any fun y => decide (x = y) := by
    rw [Bool.eq_iff_iff, geI_t, i_int]
    exact findI_nonneg
  rw [this]
theorem clone_strs (nn : Bool) (l : List D) (h : nn = false → l = []) (hl : l.length ≤ 1073741824) : F88.s FUEL (dl nn l) = some (dl nn l) := by
  unfold F88.s
  cases nn with
  | false => rw [h rfl]; rfl
  | true =>
    refine cf rfl (ct (by simpa using hl) (ct (by simp) rfl))
theorem timely_spec (t : Int) : F83.s FUEL t = some (db (decide (0 ≤ t) && decide (t ≤ 1099511627776))) := by
  unfold F83.s
  by_cases h : 0 ≤ t
  · exact ct (by simpa using h) (by simp [h, leI])
  · exact cf (by simp; omega) (by simp [h])
def timely (t : Int) : Bool := decide (0 ≤ t) && decide (t ≤ 1099511627776)
def mayN (f : Fl) (floor : Int) : Int := if f.sealed = false then 6 else if floor < f.until_ then 8 else if 0 < f.holds.length then 9 else 0
theorem may_spec (f : Fl) (floor : Int) : F44.s FUEL f.enc floor = some (di (mayN f floor)) := by
  unfold F44.s mayN
  cases hs : f.sealed with
  | false => exact ct (by simp [Fl.enc, hs]) rfl
  | true =>
    refine cf (by simp [Fl.enc, hs]) ?_
    rw [if_neg (by simp)]
    by_cases h1 : floor < f.until_
    · rw [if_pos h1]; exact ct (by simpa [Fl.enc] using h1) rfl
    · rw [if_neg h1]
      refine cf (by simpa [Fl.enc] using h1) ?_
      by_cases h2 : 0 < f.holds.length
      · rw [if_pos h2]; exact ct (by simp only [gtI_t, nI_eq, Fl.enc, at_agg, List.getD_cons_zero, List.getD_cons_succ, elems_slice, List.length_map]; omega) rfl
      · rw [if_neg h2]; exact cf (by simp only [gtI_f, nI_eq, Fl.enc, at_agg, List.getD_cons_zero, List.getD_cons_succ, elems_slice, List.length_map]; omega) rfl
def sealF (f : Fl) (t : Int) : Fl × Int := if f.sealed = true then (f, 5) else if timely t = false then (f, 1) else ({ f with sealed := true, until_ := t }, 0)
theorem seal_spec (f : Fl) (t : Int) : F58.s FUEL f.enc t = some (.tup [(sealF f t).1.enc, di (sealF f t).2]) := by
  unfold F58.s sealF
  cases hs : f.sealed with
  | true => exact ct (by simp [Fl.enc, hs]) rfl
  | false =>
    refine cf (by simp [Fl.enc, hs]) (bdS (timely_spec t) ?_)
    rw [if_neg (by simp)]
    cases ht : timely t with
    | false => exact ct (by unfold timely at ht; simp [ht]) rfl
    | true => exact cf (by unfold timely at ht; simp [ht]) rfl
def extendF (f : Fl) (t : Int) : Fl × Int := if f.sealed = false then (f, 6) else if timely t = false then (f, 1) else if t < f.until_ then (f, 7) else ({ f with until_ := t }, 0)
theorem extend_spec (f : Fl) (t : Int) : F61.s FUEL f.enc t = some (.tup [(extendF f t).1.enc, di (extendF f t).2]) := by
  unfold F61.s extendF
  cases hs : f.sealed with
  | false => exact ct (by simp [Fl.enc, hs]) rfl
  | true =>
    refine cf (by simp [Fl.enc, hs]) (bdS (timely_spec t) ?_)
    rw [if_neg (by simp)]
    cases ht : timely t with
    | false => exact ct (by unfold timely at ht; simp [ht]) rfl
    | true =>
      refine cf (by unfold timely at ht; simp [ht]) ?_
      rw [if_neg (by simp)]
      by_cases h1 : t < f.until_
      · rw [if_pos h1]; exact ct (by simpa [Fl.enc] using h1) rfl
      · rw [if_neg h1]; exact cf (by simpa [Fl.enc] using h1) (by simp [Fl.enc, hs])
end Go.AM.SD
namespace Go.AM.SD
open Go Go.AM
theorem decodeGo_tail (s : ByteArray) (pos : Nat) (h : pos < s.size) : Lib.decodeGo (s.extract pos s.size) = Utf8.decode s pos := by
  unfold Lib.decodeGo
  rw [if_neg (by rw [Lib.tail_size]; omega), Lib.tail_decode, Nat.add_zero]
def keyR (s : ByteArray) (r : Nat × Nat) : Int := if r.2 = 65533 ∧ (Utf8.decode s r.1).2 < 2 then 1114112 + byteAt s r.1 else (r.2 : Int)
def keys (s : ByteArray) : List Int := (runes s).map (keyR s)
theorem broken_spec (s : ByteArray) (p : Nat) (r : Nat) (h : p < s.size) (hs : s.size ≤ 1048576) : F109.s FUEL s (nI p) (r : Int) = some (db (decide (r = 65533 ∧ (Utf8.decode s p).2 < 2))) := by
  unfold F109.s
  by_cases hr : r = 65533
  · subst hr
    refine cf (by simp) (ct (by simp; omega) ?_)
    simp only [nI_eq, Int.toNat_natCast, decodeGo_tail s p h, ltI]
    congr 2
    rw [Bool.eq_iff_iff]; simp
    omega
  · refine ct (by simp; omega) ?_
    simp [hr]
theorem byteAt_range (s : ByteArray) (p : Nat) : 0 ≤ byteAt s p ∧ byteAt s p < 256 := by
  unfold byteAt
  have := (s.data.toList.getD p 0).toNat_lt
  omega
theorem i32_small {n : Int} (h0 : 0 ≤ n) (h1 : n < 2000000) : IntKind.wrap .i32 n = n := by
  simp [IntKind.wrap, IntKind.signed, IntKind.bits]
  omega
theorem runes_spec (s : ByteArray) (hs : s.size ≤ 1048576) : F102.s FUEL s = some (dl (!(keys s).isEmpty) ((keys s).map (D.int .i32))) := by
  unfold F102.s
  have hl := runes_len s
  refine goS_rule (fun t => ∃ (p : Nat) (l : List Int), t = ⟨s, 0, l.length, s, p, !l.isEmpty, l.map (D.int .i32)⟩ ∧ keys s = l ++ (runesFrom s p).map (keyR s)) (fun t => s.size - t.n5) (fun o => o = some (dl (!(keys s).isEmpty) ((keys s).map (D.int .i32)))) ?_ _ _ ⟨0, [], rfl, by simp [keys, runes, runesFrom]⟩ (by simp [FUEL]; omega)
  rintro _ rec ⟨p, l, rfl, hk⟩ hrec
  simp only [F102.st3]
  have hp := decode_pos s p
  by_cases h : p < s.size
  · have hlen : l.length < 1048577 := by
      have := congrArg List.length hk
      simp [keys] at this
      omega
    refine ct (by simpa using h) (bdS (broken_spec s p _ h hs) ?_)
    rw [runesFrom_step h] at hk
    have hall : ∀ x : Int, x = keyR s (p, (Utf8.decode s p).1) → rec ⟨s, 0, l.length + 1, s, p + (Utf8.decode s p).2, (!l.isEmpty || true), ap (((l.map (D.int .i32)).drop 0).take l.length) [D.int .i32 x]⟩ = some (dl (!(keys s).isEmpty) ((keys s).map (D.int .i32))) := by
      intro x hx
      refine hrec _ ⟨p + (Utf8.decode s p).2, l ++ [x], ?_, ?_⟩ (by simp; omega)
      · have e1 : ap (((l.map (D.int .i32)).drop 0).take l.length) [D.int .i32 x] = (l ++ [x]).map (D.int .i32) := by
          rw [ap, List.drop_zero, List.take_of_length_le (by simp)]; simp
        rw [e1]; simp
      · rw [hk, hx]; simp
    by_cases hb : (Utf8.decode s p).1 = 65533 ∧ (Utf8.decode s p).2 < 2
    · refine ct (by simpa using hb) (ct (by simp; omega) (ct (by simp; omega) (hall _ ?_)))
      have hr := byteAt_range s p
      simp only [ad, cv]
      have e1 := i32_small (n := byteAt s p) (by omega) (by omega)
      rw [e1, i32_small (by omega) (by omega), keyR, if_pos hb]
    · refine cf (by simpa using hb) (ct (by simp; omega) (hall _ ?_))
      rw [keyR, if_neg hb]
  · refine cf (by simpa using h) ?_
    rw [runesFrom_end (by omega)] at hk
    simp at hk
    rw [hk]
    refine ct (by simp) rfl
theorem keys_len (s : ByteArray) : (keys s).length ≤ s.size := by simp [keys]; exact runes_len s
def lexB : List Int → List Int → Bool
  | [], ys => !ys.isEmpty
  | _ :: _, [] => false
  | x :: xs, y :: ys => if x = y then lexB xs ys else decide (x < y)
def lessB (a b : ByteArray) : Bool := lexB (keys a) (keys b)
theorem lexB_drop {xs ys : List Int} {i : Nat} (h : ∀ j (h1 : j < xs.length) (h2 : j < ys.length), j < i → xs[j] = ys[j]) (hi : i ≤ xs.length) (hi' : i ≤ ys.length) : lexB xs ys = lexB (xs.drop i) (ys.drop i) := by
  induction i generalizing xs ys with
  | zero => simp
  | succ i ih =>
    match xs, ys with
    | [], _ => simp at hi
    | _ :: _, [] => simp at hi'
    | x :: xs, y :: ys =>
      have h0 := h 0 (by simp) (by simp) (by omega)
      simp at h0
      simp only [lexB, h0, if_true, List.drop_succ_cons]
      exact ih (fun j h1 h2 h3 => by have := h (j + 1) (by simpa using h1) (by simpa using h2) (by omega); simpa using this) (by simpa using hi) (by simpa using hi')
theorem less_spec (a b : ByteArray) (ha : a.size ≤ 1048576) (hb : b.size ≤ 1048576) : F77.s FUEL a b = some (db (lessB a b)) := by
  unfold F77.s
  refine bdS (runes_spec a ha) (bdS (runes_spec b hb) ?_)
  have hla := keys_len a
  have hlb := keys_len b
  simp only [elems_slice, nn_slice, List.length_map]
  generalize hx : keys a = xs at hla
  generalize hy : keys b = ys at hlb
  refine goS_rule (fun t => ∃ i : Nat, t = ⟨0, xs.length, 0, ys.length, 0, xs.length, nI xs.length, (i : Int), !xs.isEmpty, xs.map (D.int .i32), !ys.isEmpty, ys.map (D.int .i32)⟩ ∧ i ≤ xs.length ∧ i ≤ ys.length ∧ ∀ j (h1 : j < xs.length) (h2 : j < ys.length), j < i → xs[j] = ys[j]) (fun t => xs.length - t.i10.toNat) (fun o => o = some (db (lessB a b))) ?_ _ _ ⟨0, by simp, by omega, by omega, by omega⟩ (by simp [FUEL]; omega)
  rintro _ rec ⟨i, rfl, hi, hi', hs⟩ hrec
  have hlex := lexB_drop hs hi hi'
  simp only [F77.st3]
  unfold lessB at hrec ⊢
  rw [hx, hy] at hrec ⊢
  by_cases h1 : i < xs.length
  · refine ct (by simp; omega) (ct (by simp; omega) ?_)
    rw [List.drop_eq_getElem_cons h1] at hlex
    by_cases h2 : i < ys.length
    · rw [List.drop_eq_getElem_cons h2] at hlex
      simp only [lexB] at hlex
      refine cf (by simp; omega) (ct (by simp; omega) ?_)
      simp only [Int.toNat_natCast, Nat.zero_add, ix_map h1, ix_map h2, i_int]
      by_cases h3 : xs[i] = ys[i]
      · refine cf (by simpa using h3) (hrec _ ⟨i + 1, ?_, by omega, by omega, ?_⟩ ?_)
        · rw [ad64 (by omega) (by omega)]; rfl
        · intro j hj1 hj2 hj
          by_cases hji : j = i
          · subst hji; exact h3
          · exact hs j hj1 hj2 (by omega)
        · rw [ad64 (by omega) (by omega)]; simp; omega
      · refine ct (by simpa using h3) (ct (by simp; omega) ?_)
        rw [if_neg h3] at hlex
        rw [hlex]
        rfl
    · have hdy : ys.drop i = [] := List.drop_of_length_le (by omega)
      rw [hdy] at hlex
      simp only [lexB] at hlex
      refine ct (by simp; omega) ?_
      rw [hlex]
  · have hdx : xs.drop i = [] := List.drop_of_length_le (by omega)
    rw [hdx] at hlex
    simp only [lexB] at hlex
    refine cf (by simp; omega) ?_
    rw [hlex]
    congr 2
    rw [Bool.eq_iff_iff, ltI_t, nI_eq, nI_eq]
    have e : (!(ys.drop i).isEmpty) = true ↔ i < ys.length := by
      rw [Bool.not_eq_true', List.isEmpty_eq_false_iff, ← List.length_pos_iff, List.length_drop]
      omega
    rw [e]; omega
def insH (s : ByteArray) (l : List ByteArray) : List ByteArray := match l.findIdx? (fun y => !lessB y s) with
  | some i => l.take i ++ [s] ++ l.drop i
  | none => l ++ [s]
def hasB (l : List ByteArray) (s : ByteArray) : Bool := l.any fun y => decide (s = y)
def holdF (f : Fl) (s : ByteArray) : Fl × Int :=
  if f.sealed = false then (f, 6) else if nameB s = false then (f, 2) else if hasB f.holds s = true then (f, 4) else if 4 ≤ f.holds.length then (f, 10) else ({ f with nn := true, holds := insH s f.holds }, 0)
theorem hold_spec (f : Fl) (s : ByteArray) (hs : s.size ≤ 1048576) (hh : f.holds.length ≤ 1048576) (hsz : ∀ x ∈ f.holds, x.size ≤ 1048576) (hn : f.nn = false → f.holds = []) : F63.s FUEL f.enc s = some (.tup [(holdF f s).1.enc, di (holdF f s).2]) := by
  unfold F63.s holdF
  by_cases hse : f.sealed = false
  · rw [if_pos hse]; exact ct (by simp [Fl.enc, hse]) rfl
  · rw [if_neg hse]
    refine cf (by simp [Fl.enc]; simpa using hse) (bdS (name_spec s hs) ?_)
    cases hnm : nameB s with
    | false => exact ct rfl rfl
    | true =>
      refine cf rfl ?_
      rw [if_neg (by simp)]
      have h5 : f.enc.at 5 = dl f.nn (f.holds.map dS) := rfl
      rw [h5]
      refine bdS (contains_spec f.nn f.holds s hh) ?_
      show cond (hasB f.holds s) _ _ = _
      cases hc : hasB f.holds s with
      | true => exact ct rfl rfl
      | false =>
        refine cf rfl ?_
        rw [if_neg (by simp)]
        by_cases h4 : 4 ≤ f.holds.length
        · rw [if_pos h4]; exact ct (by simp; omega) rfl
        · rw [if_neg h4]
          refine cf (by simp; omega) ?_
          have hcl := clone_strs f.nn (f.holds.map dS) (fun h => by rw [hn h]; rfl) (by simp; omega)
          have fin : ∀ i : Nat, i ≤ f.holds.length → insH s f.holds = f.holds.take i ++ [s] ++ f.holds.drop i →
              (some (D.tup [(da [f.enc.at 0, f.enc.at 1, f.enc.at 2, f.enc.at 3, f.enc.at 4, (dl true (((ap (ap ((((f.holds.map dS).drop 0).take (f.holds.map dS).length).take i) [dS s]) ((((f.holds.map dS).drop 0).take (f.holds.map dS).length).drop i)).drop 0).take ((f.holds.map dS).length + 1)))]), di 0]) : Option D) =
                some (.tup [({ f with nn := true, holds := insH s f.holds } : Fl).enc, di 0]) := by
            intro i hi he
            have e1 : ((ap (ap ((((f.holds.map dS).drop 0).take (f.holds.map dS).length).take i) [dS s]) ((((f.holds.map dS).drop 0).take (f.holds.map dS).length).drop i)).drop 0).take ((f.holds.map dS).length + 1) = (insH s f.holds).map dS := by
              rw [he, List.drop_zero, List.drop_zero, List.take_of_length_le (l := f.holds.map dS) (Nat.le_refl _), ap, ap, List.take_of_length_le]
              · simp [List.map_take, List.map_drop]
              · simp; omega
            rw [e1]
            rfl
          refine goS_rule (fun t : F63.S85_2 => ∃ k : Nat, t = ⟨dl f.nn (f.holds.map dS), s, nI (dl f.nn (f.holds.map dS)).elems.length, (k : Int), f.enc, 0, bs [], bs [], false, 0, false, []⟩ ∧ k ≤ f.holds.length ∧ ∀ i (h : i < f.holds.length), i < k → (!lessB f.holds[i] s) = false) (fun t => f.holds.length - t.i6.toNat) (fun o => o = some (.tup [({ f with nn := true, holds := insH s f.holds } : Fl).enc, di 0])) ?_ _ _ ⟨0, rfl, by omega, by omega⟩ (by simp [FUEL]; omega)
          rintro _ rec ⟨k, rfl, hk, hlt⟩ hrec
          simp only [F63.st85_2]
          by_cases h1 : k < f.holds.length
          · refine ct (by simp; omega) (ct (by simp; omega) ?_)
            simp only [elems_slice, Int.toNat_natCast, ix_map h1, s_str]
            refine bdS (less_spec _ _ (hsz _ (List.getElem_mem h1)) hs) ?_
            cases hb : lessB f.holds[k] s with
            | false =>
              refine ct rfl (cf (by simp) (bdS (by rw [h5]; exact hcl) (ct ?_ ?_)))
              · simp; omega
              · refine fin k (by omega) ?_
                rw [insH, findIdx_some_of h1 hlt (by simp [hb])]
            | true =>
              refine cf rfl (hrec _ ⟨k + 1, ?_, by omega, ?_⟩ ?_)
              · rw [ad64 (by omega) (by omega)]; rfl
              · intro i hi hik
                by_cases hik' : i = k
                · subst hik'; simp [hb]
                · exact hlt i hi (by omega)
              · rw [ad64 (by omega) (by omega)]; simp; omega
          · refine cf (by simp; omega) (bdS (by rw [h5]; exact hcl) (ct ?_ ?_))
            · rw [h5]; simp; omega
            · rw [h5]
              have := fin f.holds.length (Nat.le_refl _) (by rw [insH, findIdx_none_of (fun i hi => hlt i hi (by omega))]; simp)
              simpa using this
def releaseF (f : Fl) (s : ByteArray) : Fl × Int := match f.holds.findIdx? (fun y => decide (s = y)) with
  | some i => ({ f with holds := f.holds.eraseIdx i }, 0)
  | none => (f, 3)
end Go.AM.SD
