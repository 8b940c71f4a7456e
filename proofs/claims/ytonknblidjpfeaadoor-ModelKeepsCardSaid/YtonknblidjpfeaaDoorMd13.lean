/- Part 13 of the proof: the abstract machine, what the functions compute, and plain laws over that. -/
import Derived.Test.YtonknblidjpfeaaDoorMd12
set_option linter.all false
set_option linter.unusedSimpArgs false
set_option linter.unusedVariables false
set_option linter.unusedSectionVars false
namespace Go.AM.SD
open Go Go.AM Go.Proofs Go.RowKit
namespace F9
structure S14 where
  d8 : D
  i9 : Int
  d10 : D
  b11 : Bool
  l12 : (List D)
  d13 : D
  d14 : D
  d15 : D
  d16 : D
def of14 : List Leaf → Option S14
  | [.d d8, .i i9, .d d10, .b b11, .l l12, .d d13, .d d14, .d d15, .d d16] => some ⟨d8, i9, d10, b11, l12, d13, d14, d15, d16⟩
  | _ => none
end F9
namespace F26
def cons : List (Nat × Con) := [(44, F44.c)]
def exts : List (Nat × Ext) := []
def h : List (Nat × Nat × Hint) := []
noncomputable def e (M : Nat) : Env := env cons exts h M
noncomputable def t26_0 (_ : Nat) : List Ent := []
theorem t26_0_ok (M : Nat) : AllOk (e M) (tblOf (t26_0 M)) := AllOk.nil
def s (M : Nat) (p0 : D) (p1 : Int) : Option D :=
  (cond (p0.at 3).b (bd (F44.s FUEL p0 p1) fun r1 => (some (db (neI r1.i 0)))) (some (db false)))
theorem run (M : Nat) (p0 : D) (p1 : Int) : callS (e M) (tblOf (t26_0 M)) 12 (.fn 26) [.d (.struct [3, 9, 9, 4, 3, 40]) p0, .d (.int .i64) (di p1)] [] (fun v H => finish ty [4] v H) = s M p0 p1 := by kernel_rfl
noncomputable abbrev t (M : Nat) : List Ent := t26_0 M
theorem t_ok (M : Nat) : AllOk (e M) (tblOf (t M)) := t26_0_ok M
def c : Con := { run := fun ds => match ds with | [p0, p1] => s FUEL p0 p1.i | _ => none, fresh := false, plain := true }
theorem fun_at : Tryd.prog.funcs[26]? = some Tryd.f26 := by kernel_rfl
theorem params : Tryd.f26.params.toList.map ty = [(.struct [3, 9, 9, 4, 3, 40]), (.int .i64)] := by kernel_rfl
theorem results : Tryd.f26.resultTypes.toList = [4] := by kernel_rfl
theorem flat : Tryd.f26.resultTypes.toList.all (fun t => K.flat ty 20 (ty t)) = true := by kernel_rfl
theorem ok : ConOk (26, c) := by
  intro fn hfn
  obtain rfl : Tryd.f26 = fn := Option.some.inj (fun_at.symm.trans hfn)
  refine contract_flat (n := 20) hgl (fun _ => flat) (fun ds r hh0 hr => ?_)
  rw [params] at hh0
  obtain ⟨p0, ds0, rfl, h0, hh1⟩ := hass_cons hh0
  obtain ⟨p1, ds1, rfl, h1, hh2⟩ := hass_cons hh1
  obtain ⟨p1, rfl⟩ := has_int h1
  obtain rfl := hass_nil hh2
  refine ⟨e FUEL, DEPTH, tblOf (t FUEL), envOk (allCons F44.ok allNil) allNil, rfl, t_ok FUEL, ?_⟩
  rw [params, results]
  exact (run FUEL p0 p1).trans hr
end F26
end Go.AM.SD
namespace Go.AM.SD
open Go Go.AM Go.Proofs Go.RowKit
namespace F10
def cons : List (Nat × Con) := [(17, F17.c), (18, F18.c), (19, F19.c), (20, F20.c), (21, F21.c), (26, F26.c)]
def exts : List (Nat × Ext) := []
def h : List (Nat × Nat × Hint) := [(10, 15, { live := [1, 2, 4, 11, 13, 16, 20], rows := [], own := false, inpl := false })]
noncomputable def e (M : Nat) : Env := env cons exts h M
noncomputable def t10_0 (_ : Nat) : List Ent := []
theorem t10_0_ok (M : Nat) : AllOk (e M) (tblOf (t10_0 M)) := AllOk.nil
structure S15 where
  s8 : ByteArray
  s9 : ByteArray
  d10 : D
  d11 : D
  i12 : Int
  d13 : D
  d14 : D
  d15 : D
inductive X15 where
  | e0 (s8 : ByteArray) (s9 : ByteArray) (d10 : D) (d11 : D) (i12 : Int) (d13 : D) (d14 : D) (d15 : D) (r16 : D)
  | e1 (s8 : ByteArray) (s9 : ByteArray) (d10 : D) (d11 : D) (i12 : Int) (d13 : D) (d14 : D) (d15 : D) (r16 : D)
  | e2 (s8 : ByteArray) (s9 : ByteArray) (d10 : D) (d11 : D) (i12 : Int) (d13 : D) (d14 : D) (d15 : D) (r16 : D) (r17 : D)
  | e3 (s8 : ByteArray) (s9 : ByteArray) (d10 : D) (d11 : D) (i12 : Int) (d13 : D) (d14 : D) (d15 : D) (r16 : D) (r17 : D) (r18 : D) (r19 : D) (r20 : D) (r21 : D)
  | e4 (s8 : ByteArray) (s9 : ByteArray) (d10 : D) (d11 : D) (i12 : Int) (d13 : D) (d14 : D) (d15 : D) (r16 : D) (r17 : D) (r18 : D) (r19 : D) (r20 : D) (r21 : D)
  | e5 (s8 : ByteArray) (s9 : ByteArray) (d10 : D) (d11 : D) (i12 : Int) (d13 : D) (d14 : D) (d15 : D) (r16 : D) (r17 : D) (r18 : D) (r19 : D) (r20 : D) (r21 : D)
  | e6 (s8 : ByteArray) (s9 : ByteArray) (d10 : D) (d11 : D) (i12 : Int) (d13 : D) (d14 : D) (d15 : D) (r16 : D) (r17 : D) (r18 : D) (r19 : D) (r20 : D) (r21 : D)
  | e7 (s8 : ByteArray) (s9 : ByteArray) (d10 : D) (d11 : D) (i12 : Int) (d13 : D) (d14 : D) (d15 : D) (r16 : D) (r17 : D) (r18 : D) (r19 : D) (r20 : D) (r21 : D)
  | e8 (s8 : ByteArray) (s9 : ByteArray) (d10 : D) (d11 : D) (i12 : Int) (d13 : D) (d14 : D) (d15 : D) (r16 : D) (r17 : D) (r18 : D) (r19 : D) (r20 : D) (r21 : D)
  | e9 (s8 : ByteArray) (s9 : ByteArray) (d10 : D) (d11 : D) (i12 : Int) (d13 : D) (d14 : D) (d15 : D)
def st15 (M : Nat) : S15 → (S15 → Option D) → (X15 → Option D) → Option D
  | ⟨s8, s9, d10, d11, i12, d13, d14, d15⟩, rec, K => (cond (ltI i12 (nI d10.elems.length)) (bd (F21.s FUEL d13 s8) fun r16 => (cond (ltI r16.i 0) (K (.e0 s8 s9 d10 d11 i12 d13 d14 d15 r16)) (cond (inb r16.i (d13.at 0).elems.length) (cond (neI ((ix (d13.at 0).elems (r16.i).toNat).at 0).i (d14.at 1).i) (K (.e1 s8 s9 d10 d11 i12 d13 d14 d15 r16)) (cond (inb r16.i (d13.at 0).elems.length) (bd (F26.s FUEL (ix (d13.at 0).elems (r16.i).toNat) (d13.at 2).i) fun r17 => (cond (!r17.b) (K (.e2 s8 s9 d10 d11 i12 d13 d14 d15 r16 r17)) (bd (F20.s FUEL d13 (da [(di 9), (dS s8), (dS (bs [])), (di 0), (di 0), (di (nI s9.size))])) fun r18 => (bd (F20.s FUEL d13 (da [(di 1), (dS s8), (dS (bs [120])), (di 0), (di 0), (di 0)])) fun r19 => (bd (F20.s FUEL d13 (da [(di 6), (dS s8), (dS (bs [])), (di 0), (di 0), (di 0)])) fun r20 => (bd (F20.s FUEL d13 (da [(di 0), (dS s8), (dS (bs [])), (di 0), (di 0), (di 0)])) fun r21 => (cond (neI ((r18.at 1).at 0).i 0) (K (.e3 s8 s9 d10 d11 i12 d13 d14 d15 r16 r17 r18 r19 r20 r21)) (cond (!(eqS ((r18.at 1).at 2).s s9)) (K (.e4 s8 s9 d10 d11 i12 d13 d14 d15 r16 r17 r18 r19 r20 r21)) (cond (neI ((r19.at 1).at 0).i 5) (K (.e5 s8 s9 d10 d11 i12 d13 d14 d15 r16 r17 r18 r19 r20 r21)) (cond (neI ((r20.at 1).at 0).i 8) (cond (neI ((r20.at 1).at 0).i 9) (K (.e6 s8 s9 d10 d11 i12 d13 d14 d15 r16 r17 r18 r19 r20 r21)) (cond (neI ((r21.at 1).at 0).i 4) (K (.e7 s8 s9 d10 d11 i12 d13 d14 d15 r16 r17 r18 r19 r20 r21)) (cond (inb i12 d10.elems.length) (bd (F20.s FUEL d13 (ix d10.elems i12.toNat)) fun r22 => (rec ⟨s8, s9, d10, d11, (ad .i64 i12 1), (r22.at 0), d14, d15⟩)) none))) (cond (neI ((r21.at 1).at 0).i 4) (K (.e8 s8 s9 d10 d11 i12 d13 d14 d15 r16 r17 r18 r19 r20 r21)) (cond (inb i12 d10.elems.length) (bd (F20.s FUEL d13 (ix d10.elems i12.toNat)) fun r23 => (rec ⟨s8, s9, d10, d11, (ad .i64 i12 1), (r23.at 0), d14, d15⟩)) none)))))))))))) none)) none))) (K (.e9 s8 s9 d10 d11 i12 d13 d14 d15)))
def lv15 : S15 → List Leaf
  | ⟨s8, s9, d10, d11, i12, d13, d14, d15⟩ => [.s s8, .s s9, .d d10, .d d11, .i i12, .d d13, .d d14, .d d15]
def of15 : List Leaf → Option S15
  | [.s s8, .s s9, .d d10, .d d11, .i i12, .d d13, .d d14, .d d15] => some ⟨s8, s9, d10, d11, i12, d13, d14, d15⟩
  | _ => none
def ex15 (k : Kont) : X15 → Option D
  | .e0 s8 s9 d10 d11 i12 d13 d14 d15 r16 => k .ret (us 1 ((.d .str (dS s8)) :: ((.d .str (dS s9)) :: (us 1 ((.d (.slice 47) d10) :: (us 5 ((.d .bool (db false)) :: ((.d .bool d11) :: (us 1 ((.ptr 0 [] (.struct [49, 3, 3])) :: (us 2 ((.ptr 1 [] (.struct [28, 3, 9, 42, 40])) :: (us 3 ((.d (.int .i64) (di i12)) :: ((.d (.int .i64) r16) :: (us 79 ((.d (.int .i64) (di i12)) :: ((.d (.slice 47) d10) :: ((.d (.int .i64) (di (nI d10.elems.length))) :: ((.d .bool (db (ltI i12 (nI d10.elems.length)))) :: (us 2 ((.d (.struct [49, 3, 3]) d13) :: ((.d .str (dS s8)) :: ((.d (.int .i64) r16) :: ((.d (.int .i64) r16) :: ((.d .bool (db (ltI r16.i 0))) :: ((.d .bool (db true)) :: ((.tup []) :: ((.tup []) :: ((.tup []) :: ((.tup []) :: ((.tup []) :: ((.tup []) :: ((.tup []) :: ((.tup []) :: ((.tup []) :: ((.d .bool (db true)) :: (us 85 [])))))))))))))))))))))))))))))))))))))) [(.var (.struct [49, 3, 3]) (.d (.struct [49, 3, 3]) d13)), (.var (.struct [28, 3, 9, 42, 40]) (.d (.struct [28, 3, 9, 42, 40]) d14)), (.var (.struct [28, 3, 9, 42, 40]) (.d (.struct [28, 3, 9, 42, 40]) d15))]
  | .e1 s8 s9 d10 d11 i12 d13 d14 d15 r16 => k .ret (us 1 ((.d .str (dS s8)) :: ((.d .str (dS s9)) :: (us 1 ((.d (.slice 47) d10) :: (us 5 ((.d .bool (db false)) :: ((.d .bool d11) :: (us 1 ((.ptr 0 [] (.struct [49, 3, 3])) :: (us 2 ((.ptr 1 [] (.struct [28, 3, 9, 42, 40])) :: (us 3 ((.d (.int .i64) (di i12)) :: ((.d (.int .i64) r16) :: (us 79 ((.d (.int .i64) (di i12)) :: ((.d (.slice 47) d10) :: ((.d (.int .i64) (di (nI d10.elems.length))) :: ((.d .bool (db (ltI i12 (nI d10.elems.length)))) :: (us 2 ((.d (.struct [49, 3, 3]) d13) :: ((.d .str (dS s8)) :: ((.d (.int .i64) r16) :: ((.d (.int .i64) r16) :: ((.d .bool (db (ltI r16.i 0))) :: ((.d .bool (db false)) :: ((.ptr 0 [0] (.slice 42)) :: ((.d (.slice 42) (d13.at 0)) :: ((.d (.int .i64) r16) :: ((.cptr (.struct [3, 9, 9, 4, 3, 40]) (ix (d13.at 0).elems (r16.i).toNat)) :: ((.cptr (.int .i64) ((ix (d13.at 0).elems (r16.i).toNat).at 0)) :: ((.d (.int .i64) ((ix (d13.at 0).elems (r16.i).toNat).at 0)) :: ((.ptr 1 [1] (.int .i64)) :: ((.d (.int .i64) (d14.at 1)) :: ((.d .bool (db (neI ((ix (d13.at 0).elems (r16.i).toNat).at 0).i (d14.at 1).i))) :: ((.d .bool (db (neI ((ix (d13.at 0).elems (r16.i).toNat).at 0).i (d14.at 1).i))) :: (us 85 [])))))))))))))))))))))))))))))))))))))) [(.var (.struct [49, 3, 3]) (.d (.struct [49, 3, 3]) d13)), (.var (.struct [28, 3, 9, 42, 40]) (.d (.struct [28, 3, 9, 42, 40]) d14)), (.var (.struct [28, 3, 9, 42, 40]) (.d (.struct [28, 3, 9, 42, 40]) d15))]
  | .e2 s8 s9 d10 d11 i12 d13 d14 d15 r16 r17 => k .ret (us 1 ((.d .str (dS s8)) :: ((.d .str (dS s9)) :: (us 1 ((.d (.slice 47) d10) :: (us 5 ((.d .bool d11) :: ((.d .bool d11) :: (us 1 ((.ptr 0 [] (.struct [49, 3, 3])) :: (us 2 ((.ptr 1 [] (.struct [28, 3, 9, 42, 40])) :: (us 3 ((.d (.int .i64) (di i12)) :: ((.d (.int .i64) r16) :: ((.d .bool r17) :: (us 78 ((.d (.int .i64) (di i12)) :: ((.d (.slice 47) d10) :: ((.d (.int .i64) (di (nI d10.elems.length))) :: ((.d .bool (db (ltI i12 (nI d10.elems.length)))) :: (us 2 ((.d (.struct [49, 3, 3]) d13) :: ((.d .str (dS s8)) :: ((.d (.int .i64) r16) :: ((.d (.int .i64) r16) :: ((.d .bool (db (ltI r16.i 0))) :: ((.d .bool (db false)) :: ((.ptr 0 [0] (.slice 42)) :: ((.d (.slice 42) (d13.at 0)) :: ((.d (.int .i64) r16) :: ((.cptr (.struct [3, 9, 9, 4, 3, 40]) (ix (d13.at 0).elems (r16.i).toNat)) :: ((.cptr (.int .i64) ((ix (d13.at 0).elems (r16.i).toNat).at 0)) :: ((.d (.int .i64) ((ix (d13.at 0).elems (r16.i).toNat).at 0)) :: ((.ptr 1 [1] (.int .i64)) :: ((.d (.int .i64) (d14.at 1)) :: ((.d .bool (db (neI ((ix (d13.at 0).elems (r16.i).toNat).at 0).i (d14.at 1).i))) :: ((.d .bool (db (neI ((ix (d13.at 0).elems (r16.i).toNat).at 0).i (d14.at 1).i))) :: ((.ptr 0 [0] (.slice 42)) :: ((.d (.slice 42) (d13.at 0)) :: ((.d (.int .i64) r16) :: ((.cptr (.struct [3, 9, 9, 4, 3, 40]) (ix (d13.at 0).elems (r16.i).toNat)) :: ((.d (.struct [3, 9, 9, 4, 3, 40]) (ix (d13.at 0).elems (r16.i).toNat)) :: ((.ptr 0 [2] (.int .i64)) :: ((.d (.int .i64) (d13.at 2)) :: ((.d .bool r17) :: ((.d .bool r17) :: ((.d .bool (db (!r17.b))) :: ((.d .bool d11) :: (us 74 [])))))))))))))))))))))))))))))))))))))))))))))))))) [(.var (.struct [49, 3, 3]) (.d (.struct [49, 3, 3]) d13)), (.var (.struct [28, 3, 9, 42, 40]) (.d (.struct [28, 3, 9, 42, 40]) d14)), (.var (.struct [28, 3, 9, 42, 40]) (.d (.struct [28, 3, 9, 42, 40]) d15))]
  | .e3 s8 s9 d10 d11 i12 d13 d14 d15 r16 r17 r18 r19 r20 r21 => k .ret (us 1 ((.d .str (dS s8)) :: ((.d .str (dS s9)) :: (us 1 ((.d (.slice 47) d10) :: (us 5 ((.d .bool (db false)) :: ((.d .bool d11) :: (us 1 ((.ptr 0 [] (.struct [49, 3, 3])) :: (us 2 ((.ptr 1 [] (.struct [28, 3, 9, 42, 40])) :: (us 3 ((.d (.int .i64) (di i12)) :: ((.d (.int .i64) r16) :: ((.d .bool r17) :: ((.ptr 3 [] (.struct [49, 3, 3])) :: ((.ptr 4 [] (.struct [28, 3, 9, 42, 40])) :: ((.d (.slice 38) (r18.at 2)) :: ((.ptr 5 [] (.struct [49, 3, 3])) :: ((.ptr 6 [] (.struct [28, 3, 9, 42, 40])) :: ((.d (.slice 38) (r19.at 2)) :: ((.ptr 7 [] (.struct [49, 3, 3])) :: ((.ptr 8 [] (.struct [28, 3, 9, 42, 40])) :: ((.d (.slice 38) (r20.at 2)) :: ((.ptr 9 [] (.struct [49, 3, 3])) :: ((.ptr 10 [] (.struct [28, 3, 9, 42, 40])) :: ((.d (.slice 38) (r21.at 2)) :: (us 66 ((.d (.int .i64) (di i12)) :: ((.d (.slice 47) d10) :: ((.d (.int .i64) (di (nI d10.elems.length))) :: ((.d .bool (db (ltI i12 (nI d10.elems.length)))) :: (us 2 ((.d (.struct [49, 3, 3]) d13) :: ((.d .str (dS s8)) :: ((.d (.int .i64) r16) :: ((.d (.int .i64) r16) :: ((.d .bool (db (ltI r16.i 0))) :: ((.d .bool (db false)) :: ((.ptr 0 [0] (.slice 42)) :: ((.d (.slice 42) (d13.at 0)) :: ((.d (.int .i64) r16) :: ((.cptr (.struct [3, 9, 9, 4, 3, 40]) (ix (d13.at 0).elems (r16.i).toNat)) :: ((.cptr (.int .i64) ((ix (d13.at 0).elems (r16.i).toNat).at 0)) :: ((.d (.int .i64) ((ix (d13.at 0).elems (r16.i).toNat).at 0)) :: ((.ptr 1 [1] (.int .i64)) :: ((.d (.int .i64) (d14.at 1)) :: ((.d .bool (db (neI ((ix (d13.at 0).elems (r16.i).toNat).at 0).i (d14.at 1).i))) :: ((.d .bool (db (neI ((ix (d13.at 0).elems (r16.i).toNat).at 0).i (d14.at 1).i))) :: ((.ptr 0 [0] (.slice 42)) :: ((.d (.slice 42) (d13.at 0)) :: ((.d (.int .i64) r16) :: ((.cptr (.struct [3, 9, 9, 4, 3, 40]) (ix (d13.at 0).elems (r16.i).toNat)) :: ((.d (.struct [3, 9, 9, 4, 3, 40]) (ix (d13.at 0).elems (r16.i).toNat)) :: ((.ptr 0 [2] (.int .i64)) :: ((.d (.int .i64) (d13.at 2)) :: ((.d .bool r17) :: ((.d .bool r17) :: ((.d .bool (db (!r17.b))) :: (us 1 ((.dtup [(.struct [49, 3, 3]), (.struct [28, 3, 9, 42, 40]), (.slice 38)] r18) :: ((.d (.struct [49, 3, 3]) d13) :: ((.d .str (dS s8)) :: ((.d .str (dS s9)) :: ((.d (.int .i64) (di (nI s9.size))) :: ((.d (.struct [34, 9, 9, 3, 3, 3]) (da [(di 9), (dS s8), (dS (bs [])), (di 0), (di 0), (di (nI s9.size))])) :: ((.dtup [(.struct [49, 3, 3]), (.struct [28, 3, 9, 42, 40]), (.slice 38)] r18) :: ((.d (.struct [49, 3, 3]) (r18.at 0)) :: ((.d (.struct [28, 3, 9, 42, 40]) (r18.at 1)) :: ((.d (.slice 38) (r18.at 2)) :: ((.dtup [(.struct [49, 3, 3]), (.struct [28, 3, 9, 42, 40]), (.slice 38)] r19) :: ((.d (.struct [49, 3, 3]) d13) :: ((.d .str (dS s8)) :: ((.d (.struct [34, 9, 9, 3, 3, 3]) (da [(di 1), (dS s8), (dS (bs [120])), (di 0), (di 0), (di 0)])) :: ((.dtup [(.struct [49, 3, 3]), (.struct [28, 3, 9, 42, 40]), (.slice 38)] r19) :: ((.d (.struct [49, 3, 3]) (r19.at 0)) :: ((.d (.struct [28, 3, 9, 42, 40]) (r19.at 1)) :: ((.d (.slice 38) (r19.at 2)) :: ((.dtup [(.struct [49, 3, 3]), (.struct [28, 3, 9, 42, 40]), (.slice 38)] r20) :: ((.d (.struct [49, 3, 3]) d13) :: ((.d .str (dS s8)) :: ((.d (.struct [34, 9, 9, 3, 3, 3]) (da [(di 6), (dS s8), (dS (bs [])), (di 0), (di 0), (di 0)])) :: ((.dtup [(.struct [49, 3, 3]), (.struct [28, 3, 9, 42, 40]), (.slice 38)] r20) :: ((.d (.struct [49, 3, 3]) (r20.at 0)) :: ((.d (.struct [28, 3, 9, 42, 40]) (r20.at 1)) :: ((.d (.slice 38) (r20.at 2)) :: ((.dtup [(.struct [49, 3, 3]), (.struct [28, 3, 9, 42, 40]), (.slice 38)] r21) :: ((.d (.struct [49, 3, 3]) d13) :: ((.d .str (dS s8)) :: ((.d (.struct [34, 9, 9, 3, 3, 3]) (da [(di 0), (dS s8), (dS (bs [])), (di 0), (di 0), (di 0)])) :: ((.dtup [(.struct [49, 3, 3]), (.struct [28, 3, 9, 42, 40]), (.slice 38)] r21) :: ((.d (.struct [49, 3, 3]) (r21.at 0)) :: ((.d (.struct [28, 3, 9, 42, 40]) (r21.at 1)) :: ((.d (.slice 38) (r21.at 2)) :: ((.ptr 4 [0] (.int .i64)) :: ((.d (.int .i64) ((r18.at 1).at 0)) :: ((.d .bool (db (neI ((r18.at 1).at 0).i 0))) :: ((.d .bool (db true)) :: ((.tup []) :: ((.tup []) :: ((.tup []) :: ((.tup []) :: ((.d .bool (db true)) :: ((.d .bool (db true)) :: ((.tup []) :: ((.tup []) :: ((.tup []) :: ((.d .bool (db true)) :: ((.d .bool (db true)) :: ((.tup []) :: ((.tup []) :: ((.tup []) :: ((.tup []) :: ((.tup []) :: ((.tup []) :: ((.tup []) :: ((.tup []) :: ((.d .bool (db true)) :: ((.d .bool (db true)) :: ((.tup []) :: ((.tup []) :: ((.tup []) :: ((.d .bool (db true)) :: (us 11 []))))))))))))))))))))))))))))))))))))))))))))))))))))))))))))))))))))))))))))))))))))))))))))))))))))))))))))))))))))))))))))) [(.var (.struct [49, 3, 3]) (.d (.struct [49, 3, 3]) d13)), (.var (.struct [28, 3, 9, 42, 40]) (.d (.struct [28, 3, 9, 42, 40]) d14)), (.var (.struct [28, 3, 9, 42, 40]) (.d (.struct [28, 3, 9, 42, 40]) d15)), (.var (.struct [49, 3, 3]) (.d (.struct [49, 3, 3]) (r18.at 0))), (.var (.struct [28, 3, 9, 42, 40]) (.d (.struct [28, 3, 9, 42, 40]) (r18.at 1))), (.var (.struct [49, 3, 3]) (.d (.struct [49, 3, 3]) (r19.at 0))), (.var (.struct [28, 3, 9, 42, 40]) (.d (.struct [28, 3, 9, 42, 40]) (r19.at 1))), (.var (.struct [49, 3, 3]) (.d (.struct [49, 3, 3]) (r20.at 0))), (.var (.struct [28, 3, 9, 42, 40]) (.d (.struct [28, 3, 9, 42, 40]) (r20.at 1))), (.var (.struct [49, 3, 3]) (.d (.struct [49, 3, 3]) (r21.at 0))), (.var (.struct [28, 3, 9, 42, 40]) (.d (.struct [28, 3, 9, 42, 40]) (r21.at 1)))]
  | .e4 s8 s9 d10 d11 i12 d13 d14 d15 r16 r17 r18 r19 r20 r21 => k .ret (us 1 ((.d .str (dS s8)) :: ((.d .str (dS s9)) :: (us 1 ((.d (.slice 47) d10) :: (us 5 ((.d .bool (db false)) :: ((.d .bool d11) :: (us 1 ((.ptr 0 [] (.struct [49, 3, 3])) :: (us 2 ((.ptr 1 [] (.struct [28, 3, 9, 42, 40])) :: (us 3 ((.d (.int .i64) (di i12)) :: ((.d (.int .i64) r16) :: ((.d .bool r17) :: ((.ptr 3 [] (.struct [49, 3, 3])) :: ((.ptr 4 [] (.struct [28, 3, 9, 42, 40])) :: ((.d (.slice 38) (r18.at 2)) :: ((.ptr 5 [] (.struct [49, 3, 3])) :: ((.ptr 6 [] (.struct [28, 3, 9, 42, 40])) :: ((.d (.slice 38) (r19.at 2)) :: ((.ptr 7 [] (.struct [49, 3, 3])) :: ((.ptr 8 [] (.struct [28, 3, 9, 42, 40])) :: ((.d (.slice 38) (r20.at 2)) :: ((.ptr 9 [] (.struct [49, 3, 3])) :: ((.ptr 10 [] (.struct [28, 3, 9, 42, 40])) :: ((.d (.slice 38) (r21.at 2)) :: (us 66 ((.d (.int .i64) (di i12)) :: ((.d (.slice 47) d10) :: ((.d (.int .i64) (di (nI d10.elems.length))) :: ((.d .bool (db (ltI i12 (nI d10.elems.length)))) :: (us 2 ((.d (.struct [49, 3, 3]) d13) :: ((.d .str (dS s8)) :: ((.d (.int .i64) r16) :: ((.d (.int .i64) r16) :: ((.d .bool (db (ltI r16.i 0))) :: ((.d .bool (db false)) :: ((.ptr 0 [0] (.slice 42)) :: ((.d (.slice 42) (d13.at 0)) :: ((.d (.int .i64) r16) :: ((.cptr (.struct [3, 9, 9, 4, 3, 40]) (ix (d13.at 0).elems (r16.i).toNat)) :: ((.cptr (.int .i64) ((ix (d13.at 0).elems (r16.i).toNat).at 0)) :: ((.d (.int .i64) ((ix (d13.at 0).elems (r16.i).toNat).at 0)) :: ((.ptr 1 [1] (.int .i64)) :: ((.d (.int .i64) (d14.at 1)) :: ((.d .bool (db (neI ((ix (d13.at 0).elems (r16.i).toNat).at 0).i (d14.at 1).i))) :: ((.d .bool (db (neI ((ix (d13.at 0).elems (r16.i).toNat).at 0).i (d14.at 1).i))) :: ((.ptr 0 [0] (.slice 42)) :: ((.d (.slice 42) (d13.at 0)) :: ((.d (.int .i64) r16) :: ((.cptr (.struct [3, 9, 9, 4, 3, 40]) (ix (d13.at 0).elems (r16.i).toNat)) :: ((.d (.struct [3, 9, 9, 4, 3, 40]) (ix (d13.at 0).elems (r16.i).toNat)) :: ((.ptr 0 [2] (.int .i64)) :: ((.d (.int .i64) (d13.at 2)) :: ((.d .bool r17) :: ((.d .bool r17) :: ((.d .bool (db (!r17.b))) :: (us 1 ((.dtup [(.struct [49, 3, 3]), (.struct [28, 3, 9, 42, 40]), (.slice 38)] r18) :: ((.d (.struct [49, 3, 3]) d13) :: ((.d .str (dS s8)) :: ((.d .str (dS s9)) :: ((.d (.int .i64) (di (nI s9.size))) :: ((.d (.struct [34, 9, 9, 3, 3, 3]) (da [(di 9), (dS s8), (dS (bs [])), (di 0), (di 0), (di (nI s9.size))])) :: ((.dtup [(.struct [49, 3, 3]), (.struct [28, 3, 9, 42, 40]), (.slice 38)] r18) :: ((.d (.struct [49, 3, 3]) (r18.at 0)) :: ((.d (.struct [28, 3, 9, 42, 40]) (r18.at 1)) :: ((.d (.slice 38) (r18.at 2)) :: ((.dtup [(.struct [49, 3, 3]), (.struct [28, 3, 9, 42, 40]), (.slice 38)] r19) :: ((.d (.struct [49, 3, 3]) d13) :: ((.d .str (dS s8)) :: ((.d (.struct [34, 9, 9, 3, 3, 3]) (da [(di 1), (dS s8), (dS (bs [120])), (di 0), (di 0), (di 0)])) :: ((.dtup [(.struct [49, 3, 3]), (.struct [28, 3, 9, 42, 40]), (.slice 38)] r19) :: ((.d (.struct [49, 3, 3]) (r19.at 0)) :: ((.d (.struct [28, 3, 9, 42, 40]) (r19.at 1)) :: ((.d (.slice 38) (r19.at 2)) :: ((.dtup [(.struct [49, 3, 3]), (.struct [28, 3, 9, 42, 40]), (.slice 38)] r20) :: ((.d (.struct [49, 3, 3]) d13) :: ((.d .str (dS s8)) :: ((.d (.struct [34, 9, 9, 3, 3, 3]) (da [(di 6), (dS s8), (dS (bs [])), (di 0), (di 0), (di 0)])) :: ((.dtup [(.struct [49, 3, 3]), (.struct [28, 3, 9, 42, 40]), (.slice 38)] r20) :: ((.d (.struct [49, 3, 3]) (r20.at 0)) :: ((.d (.struct [28, 3, 9, 42, 40]) (r20.at 1)) :: ((.d (.slice 38) (r20.at 2)) :: ((.dtup [(.struct [49, 3, 3]), (.struct [28, 3, 9, 42, 40]), (.slice 38)] r21) :: ((.d (.struct [49, 3, 3]) d13) :: ((.d .str (dS s8)) :: ((.d (.struct [34, 9, 9, 3, 3, 3]) (da [(di 0), (dS s8), (dS (bs [])), (di 0), (di 0), (di 0)])) :: ((.dtup [(.struct [49, 3, 3]), (.struct [28, 3, 9, 42, 40]), (.slice 38)] r21) :: ((.d (.struct [49, 3, 3]) (r21.at 0)) :: ((.d (.struct [28, 3, 9, 42, 40]) (r21.at 1)) :: ((.d (.slice 38) (r21.at 2)) :: ((.ptr 4 [0] (.int .i64)) :: ((.d (.int .i64) ((r18.at 1).at 0)) :: ((.d .bool (db (neI ((r18.at 1).at 0).i 0))) :: ((.d .bool (db false)) :: ((.ptr 4 [2] .str) :: ((.d .str ((r18.at 1).at 2)) :: ((.d .str (dS s9)) :: ((.d .bool (db (!(eqS ((r18.at 1).at 2).s s9)))) :: ((.d .bool (db (!(eqS ((r18.at 1).at 2).s s9)))) :: ((.d .bool (db true)) :: ((.tup []) :: ((.tup []) :: ((.tup []) :: ((.d .bool (db true)) :: ((.d .bool (db true)) :: ((.tup []) :: ((.tup []) :: ((.tup []) :: ((.tup []) :: ((.tup []) :: ((.tup []) :: ((.tup []) :: ((.tup []) :: ((.d .bool (db true)) :: ((.d .bool (db true)) :: ((.tup []) :: ((.tup []) :: ((.tup []) :: ((.d .bool (db true)) :: (us 11 []))))))))))))))))))))))))))))))))))))))))))))))))))))))))))))))))))))))))))))))))))))))))))))))))))))))))))))))))))))))))))))) [(.var (.struct [49, 3, 3]) (.d (.struct [49, 3, 3]) d13)), (.var (.struct [28, 3, 9, 42, 40]) (.d (.struct [28, 3, 9, 42, 40]) d14)), (.var (.struct [28, 3, 9, 42, 40]) (.d (.struct [28, 3, 9, 42, 40]) d15)), (.var (.struct [49, 3, 3]) (.d (.struct [49, 3, 3]) (r18.at 0))), (.var (.struct [28, 3, 9, 42, 40]) (.d (.struct [28, 3, 9, 42, 40]) (r18.at 1))), (.var (.struct [49, 3, 3]) (.d (.struct [49, 3, 3]) (r19.at 0))), (.var (.struct [28, 3, 9, 42, 40]) (.d (.struct [28, 3, 9, 42, 40]) (r19.at 1))), (.var (.struct [49, 3, 3]) (.d (.struct [49, 3, 3]) (r20.at 0))), (.var (.struct [28, 3, 9, 42, 40]) (.d (.struct [28, 3, 9, 42, 40]) (r20.at 1))), (.var (.struct [49, 3, 3]) (.d (.struct [49, 3, 3]) (r21.at 0))), (.var (.struct [28, 3, 9, 42, 40]) (.d (.struct [28, 3, 9, 42, 40]) (r21.at 1)))]
  | .e5 s8 s9 d10 d11 i12 d13 d14 d15 r16 r17 r18 r19 r20 r21 => k .ret (us 1 ((.d .str (dS s8)) :: ((.d .str (dS s9)) :: (us 1 ((.d (.slice 47) d10) :: (us 5 ((.d .bool (db false)) :: ((.d .bool d11) :: (us 1 ((.ptr 0 [] (.struct [49, 3, 3])) :: (us 2 ((.ptr 1 [] (.struct [28, 3, 9, 42, 40])) :: (us 3 ((.d (.int .i64) (di i12)) :: ((.d (.int .i64) r16) :: ((.d .bool r17) :: ((.ptr 3 [] (.struct [49, 3, 3])) :: ((.ptr 4 [] (.struct [28, 3, 9, 42, 40])) :: ((.d (.slice 38) (r18.at 2)) :: ((.ptr 5 [] (.struct [49, 3, 3])) :: ((.ptr 6 [] (.struct [28, 3, 9, 42, 40])) :: ((.d (.slice 38) (r19.at 2)) :: ((.ptr 7 [] (.struct [49, 3, 3])) :: ((.ptr 8 [] (.struct [28, 3, 9, 42, 40])) :: ((.d (.slice 38) (r20.at 2)) :: ((.ptr 9 [] (.struct [49, 3, 3])) :: ((.ptr 10 [] (.struct [28, 3, 9, 42, 40])) :: ((.d (.slice 38) (r21.at 2)) :: (us 66 ((.d (.int .i64) (di i12)) :: ((.d (.slice 47) d10) :: ((.d (.int .i64) (di (nI d10.elems.length))) :: ((.d .bool (db (ltI i12 (nI d10.elems.length)))) :: (us 2 ((.d (.struct [49, 3, 3]) d13) :: ((.d .str (dS s8)) :: ((.d (.int .i64) r16) :: ((.d (.int .i64) r16) :: ((.d .bool (db (ltI r16.i 0))) :: ((.d .bool (db false)) :: ((.ptr 0 [0] (.slice 42)) :: ((.d (.slice 42) (d13.at 0)) :: ((.d (.int .i64) r16) :: ((.cptr (.struct [3, 9, 9, 4, 3, 40]) (ix (d13.at 0).elems (r16.i).toNat)) :: ((.cptr (.int .i64) ((ix (d13.at 0).elems (r16.i).toNat).at 0)) :: ((.d (.int .i64) ((ix (d13.at 0).elems (r16.i).toNat).at 0)) :: ((.ptr 1 [1] (.int .i64)) :: ((.d (.int .i64) (d14.at 1)) :: ((.d .bool (db (neI ((ix (d13.at 0).elems (r16.i).toNat).at 0).i (d14.at 1).i))) :: ((.d .bool (db (neI ((ix (d13.at 0).elems (r16.i).toNat).at 0).i (d14.at 1).i))) :: ((.ptr 0 [0] (.slice 42)) :: ((.d (.slice 42) (d13.at 0)) :: ((.d (.int .i64) r16) :: ((.cptr (.struct [3, 9, 9, 4, 3, 40]) (ix (d13.at 0).elems (r16.i).toNat)) :: ((.d (.struct [3, 9, 9, 4, 3, 40]) (ix (d13.at 0).elems (r16.i).toNat)) :: ((.ptr 0 [2] (.int .i64)) :: ((.d (.int .i64) (d13.at 2)) :: ((.d .bool r17) :: ((.d .bool r17) :: ((.d .bool (db (!r17.b))) :: (us 1 ((.dtup [(.struct [49, 3, 3]), (.struct [28, 3, 9, 42, 40]), (.slice 38)] r18) :: ((.d (.struct [49, 3, 3]) d13) :: ((.d .str (dS s8)) :: ((.d .str (dS s9)) :: ((.d (.int .i64) (di (nI s9.size))) :: ((.d (.struct [34, 9, 9, 3, 3, 3]) (da [(di 9), (dS s8), (dS (bs [])), (di 0), (di 0), (di (nI s9.size))])) :: ((.dtup [(.struct [49, 3, 3]), (.struct [28, 3, 9, 42, 40]), (.slice 38)] r18) :: ((.d (.struct [49, 3, 3]) (r18.at 0)) :: ((.d (.struct [28, 3, 9, 42, 40]) (r18.at 1)) :: ((.d (.slice 38) (r18.at 2)) :: ((.dtup [(.struct [49, 3, 3]), (.struct [28, 3, 9, 42, 40]), (.slice 38)] r19) :: ((.d (.struct [49, 3, 3]) d13) :: ((.d .str (dS s8)) :: ((.d (.struct [34, 9, 9, 3, 3, 3]) (da [(di 1), (dS s8), (dS (bs [120])), (di 0), (di 0), (di 0)])) :: ((.dtup [(.struct [49, 3, 3]), (.struct [28, 3, 9, 42, 40]), (.slice 38)] r19) :: ((.d (.struct [49, 3, 3]) (r19.at 0)) :: ((.d (.struct [28, 3, 9, 42, 40]) (r19.at 1)) :: ((.d (.slice 38) (r19.at 2)) :: ((.dtup [(.struct [49, 3, 3]), (.struct [28, 3, 9, 42, 40]), (.slice 38)] r20) :: ((.d (.struct [49, 3, 3]) d13) :: ((.d .str (dS s8)) :: ((.d (.struct [34, 9, 9, 3, 3, 3]) (da [(di 6), (dS s8), (dS (bs [])), (di 0), (di 0), (di 0)])) :: ((.dtup [(.struct [49, 3, 3]), (.struct [28, 3, 9, 42, 40]), (.slice 38)] r20) :: ((.d (.struct [49, 3, 3]) (r20.at 0)) :: ((.d (.struct [28, 3, 9, 42, 40]) (r20.at 1)) :: ((.d (.slice 38) (r20.at 2)) :: ((.dtup [(.struct [49, 3, 3]), (.struct [28, 3, 9, 42, 40]), (.slice 38)] r21) :: ((.d (.struct [49, 3, 3]) d13) :: ((.d .str (dS s8)) :: ((.d (.struct [34, 9, 9, 3, 3, 3]) (da [(di 0), (dS s8), (dS (bs [])), (di 0), (di 0), (di 0)])) :: ((.dtup [(.struct [49, 3, 3]), (.struct [28, 3, 9, 42, 40]), (.slice 38)] r21) :: ((.d (.struct [49, 3, 3]) (r21.at 0)) :: ((.d (.struct [28, 3, 9, 42, 40]) (r21.at 1)) :: ((.d (.slice 38) (r21.at 2)) :: ((.ptr 4 [0] (.int .i64)) :: ((.d (.int .i64) ((r18.at 1).at 0)) :: ((.d .bool (db (neI ((r18.at 1).at 0).i 0))) :: ((.d .bool (db false)) :: ((.ptr 4 [2] .str) :: ((.d .str ((r18.at 1).at 2)) :: ((.d .str (dS s9)) :: ((.d .bool (db (!(eqS ((r18.at 1).at 2).s s9)))) :: ((.d .bool (db (!(eqS ((r18.at 1).at 2).s s9)))) :: ((.d .bool (db false)) :: ((.ptr 6 [0] (.int .i64)) :: ((.d (.int .i64) ((r19.at 1).at 0)) :: ((.d .bool (db (neI ((r19.at 1).at 0).i 5))) :: ((.d .bool (db (neI ((r19.at 1).at 0).i 5))) :: ((.d .bool (db true)) :: ((.tup []) :: ((.tup []) :: ((.tup []) :: ((.tup []) :: ((.tup []) :: ((.tup []) :: ((.tup []) :: ((.tup []) :: ((.d .bool (db true)) :: ((.d .bool (db true)) :: ((.tup []) :: ((.tup []) :: ((.tup []) :: ((.d .bool (db true)) :: (us 11 []))))))))))))))))))))))))))))))))))))))))))))))))))))))))))))))))))))))))))))))))))))))))))))))))))))))))))))))))))))))))))))) [(.var (.struct [49, 3, 3]) (.d (.struct [49, 3, 3]) d13)), (.var (.struct [28, 3, 9, 42, 40]) (.d (.struct [28, 3, 9, 42, 40]) d14)), (.var (.struct [28, 3, 9, 42, 40]) (.d (.struct [28, 3, 9, 42, 40]) d15)), (.var (.struct [49, 3, 3]) (.d (.struct [49, 3, 3]) (r18.at 0))), (.var (.struct [28, 3, 9, 42, 40]) (.d (.struct [28, 3, 9, 42, 40]) (r18.at 1))), (.var (.struct [49, 3, 3]) (.d (.struct [49, 3, 3]) (r19.at 0))), (.var (.struct [28, 3, 9, 42, 40]) (.d (.struct [28, 3, 9, 42, 40]) (r19.at 1))), (.var (.struct [49, 3, 3]) (.d (.struct [49, 3, 3]) (r20.at 0))), (.var (.struct [28, 3, 9, 42, 40]) (.d (.struct [28, 3, 9, 42, 40]) (r20.at 1))), (.var (.struct [49, 3, 3]) (.d (.struct [49, 3, 3]) (r21.at 0))), (.var (.struct [28, 3, 9, 42, 40]) (.d (.struct [28, 3, 9, 42, 40]) (r21.at 1)))]
  | .e6 s8 s9 d10 d11 i12 d13 d14 d15 r16 r17 r18 r19 r20 r21 => k .ret (us 1 ((.d .str (dS s8)) :: ((.d .str (dS s9)) :: (us 1 ((.d (.slice 47) d10) :: (us 5 ((.d .bool (db false)) :: ((.d .bool d11) :: (us 1 ((.ptr 0 [] (.struct [49, 3, 3])) :: (us 2 ((.ptr 1 [] (.struct [28, 3, 9, 42, 40])) :: (us 3 ((.d (.int .i64) (di i12)) :: ((.d (.int .i64) r16) :: ((.d .bool r17) :: ((.ptr 3 [] (.struct [49, 3, 3])) :: ((.ptr 4 [] (.struct [28, 3, 9, 42, 40])) :: ((.d (.slice 38) (r18.at 2)) :: ((.ptr 5 [] (.struct [49, 3, 3])) :: ((.ptr 6 [] (.struct [28, 3, 9, 42, 40])) :: ((.d (.slice 38) (r19.at 2)) :: ((.ptr 7 [] (.struct [49, 3, 3])) :: ((.ptr 8 [] (.struct [28, 3, 9, 42, 40])) :: ((.d (.slice 38) (r20.at 2)) :: ((.ptr 9 [] (.struct [49, 3, 3])) :: ((.ptr 10 [] (.struct [28, 3, 9, 42, 40])) :: ((.d (.slice 38) (r21.at 2)) :: (us 66 ((.d (.int .i64) (di i12)) :: ((.d (.slice 47) d10) :: ((.d (.int .i64) (di (nI d10.elems.length))) :: ((.d .bool (db (ltI i12 (nI d10.elems.length)))) :: (us 2 ((.d (.struct [49, 3, 3]) d13) :: ((.d .str (dS s8)) :: ((.d (.int .i64) r16) :: ((.d (.int .i64) r16) :: ((.d .bool (db (ltI r16.i 0))) :: ((.d .bool (db false)) :: ((.ptr 0 [0] (.slice 42)) :: ((.d (.slice 42) (d13.at 0)) :: ((.d (.int .i64) r16) :: ((.cptr (.struct [3, 9, 9, 4, 3, 40]) (ix (d13.at 0).elems (r16.i).toNat)) :: ((.cptr (.int .i64) ((ix (d13.at 0).elems (r16.i).toNat).at 0)) :: ((.d (.int .i64) ((ix (d13.at 0).elems (r16.i).toNat).at 0)) :: ((.ptr 1 [1] (.int .i64)) :: ((.d (.int .i64) (d14.at 1)) :: ((.d .bool (db (neI ((ix (d13.at 0).elems (r16.i).toNat).at 0).i (d14.at 1).i))) :: ((.d .bool (db (neI ((ix (d13.at 0).elems (r16.i).toNat).at 0).i (d14.at 1).i))) :: ((.ptr 0 [0] (.slice 42)) :: ((.d (.slice 42) (d13.at 0)) :: ((.d (.int .i64) r16) :: ((.cptr (.struct [3, 9, 9, 4, 3, 40]) (ix (d13.at 0).elems (r16.i).toNat)) :: ((.d (.struct [3, 9, 9, 4, 3, 40]) (ix (d13.at 0).elems (r16.i).toNat)) :: ((.ptr 0 [2] (.int .i64)) :: ((.d (.int .i64) (d13.at 2)) :: ((.d .bool r17) :: ((.d .bool r17) :: ((.d .bool (db (!r17.b))) :: (us 1 ((.dtup [(.struct [49, 3, 3]), (.struct [28, 3, 9, 42, 40]), (.slice 38)] r18) :: ((.d (.struct [49, 3, 3]) d13) :: ((.d .str (dS s8)) :: ((.d .str (dS s9)) :: ((.d (.int .i64) (di (nI s9.size))) :: ((.d (.struct [34, 9, 9, 3, 3, 3]) (da [(di 9), (dS s8), (dS (bs [])), (di 0), (di 0), (di (nI s9.size))])) :: ((.dtup [(.struct [49, 3, 3]), (.struct [28, 3, 9, 42, 40]), (.slice 38)] r18) :: ((.d (.struct [49, 3, 3]) (r18.at 0)) :: ((.d (.struct [28, 3, 9, 42, 40]) (r18.at 1)) :: ((.d (.slice 38) (r18.at 2)) :: ((.dtup [(.struct [49, 3, 3]), (.struct [28, 3, 9, 42, 40]), (.slice 38)] r19) :: ((.d (.struct [49, 3, 3]) d13) :: ((.d .str (dS s8)) :: ((.d (.struct [34, 9, 9, 3, 3, 3]) (da [(di 1), (dS s8), (dS (bs [120])), (di 0), (di 0), (di 0)])) :: ((.dtup [(.struct [49, 3, 3]), (.struct [28, 3, 9, 42, 40]), (.slice 38)] r19) :: ((.d (.struct [49, 3, 3]) (r19.at 0)) :: ((.d (.struct [28, 3, 9, 42, 40]) (r19.at 1)) :: ((.d (.slice 38) (r19.at 2)) :: ((.dtup [(.struct [49, 3, 3]), (.struct [28, 3, 9, 42, 40]), (.slice 38)] r20) :: ((.d (.struct [49, 3, 3]) d13) :: ((.d .str (dS s8)) :: ((.d (.struct [34, 9, 9, 3, 3, 3]) (da [(di 6), (dS s8), (dS (bs [])), (di 0), (di 0), (di 0)])) :: ((.dtup [(.struct [49, 3, 3]), (.struct [28, 3, 9, 42, 40]), (.slice 38)] r20) :: ((.d (.struct [49, 3, 3]) (r20.at 0)) :: ((.d (.struct [28, 3, 9, 42, 40]) (r20.at 1)) :: ((.d (.slice 38) (r20.at 2)) :: ((.dtup [(.struct [49, 3, 3]), (.struct [28, 3, 9, 42, 40]), (.slice 38)] r21) :: ((.d (.struct [49, 3, 3]) d13) :: ((.d .str (dS s8)) :: ((.d (.struct [34, 9, 9, 3, 3, 3]) (da [(di 0), (dS s8), (dS (bs [])), (di 0), (di 0), (di 0)])) :: ((.dtup [(.struct [49, 3, 3]), (.struct [28, 3, 9, 42, 40]), (.slice 38)] r21) :: ((.d (.struct [49, 3, 3]) (r21.at 0)) :: ((.d (.struct [28, 3, 9, 42, 40]) (r21.at 1)) :: ((.d (.slice 38) (r21.at 2)) :: ((.ptr 4 [0] (.int .i64)) :: ((.d (.int .i64) ((r18.at 1).at 0)) :: ((.d .bool (db (neI ((r18.at 1).at 0).i 0))) :: ((.d .bool (db false)) :: ((.ptr 4 [2] .str) :: ((.d .str ((r18.at 1).at 2)) :: ((.d .str (dS s9)) :: ((.d .bool (db (!(eqS ((r18.at 1).at 2).s s9)))) :: ((.d .bool (db (!(eqS ((r18.at 1).at 2).s s9)))) :: ((.d .bool (db false)) :: ((.ptr 6 [0] (.int .i64)) :: ((.d (.int .i64) ((r19.at 1).at 0)) :: ((.d .bool (db (neI ((r19.at 1).at 0).i 5))) :: ((.d .bool (db (neI ((r19.at 1).at 0).i 5))) :: ((.d .bool (db false)) :: ((.ptr 8 [0] (.int .i64)) :: ((.d (.int .i64) ((r20.at 1).at 0)) :: ((.d .bool (db (neI ((r20.at 1).at 0).i 8))) :: ((.d .bool (db true)) :: ((.ptr 8 [0] (.int .i64)) :: ((.d (.int .i64) ((r20.at 1).at 0)) :: ((.d .bool (db (neI ((r20.at 1).at 0).i 9))) :: ((.d .bool (db (neI ((r20.at 1).at 0).i 9))) :: ((.d .bool (db (neI ((r20.at 1).at 0).i 9))) :: ((.d .bool (db true)) :: ((.tup []) :: ((.tup []) :: ((.tup []) :: ((.d .bool (db true)) :: (us 11 []))))))))))))))))))))))))))))))))))))))))))))))))))))))))))))))))))))))))))))))))))))))))))))))))))))))))))))))))))))))))))))) [(.var (.struct [49, 3, 3]) (.d (.struct [49, 3, 3]) d13)), (.var (.struct [28, 3, 9, 42, 40]) (.d (.struct [28, 3, 9, 42, 40]) d14)), (.var (.struct [28, 3, 9, 42, 40]) (.d (.struct [28, 3, 9, 42, 40]) d15)), (.var (.struct [49, 3, 3]) (.d (.struct [49, 3, 3]) (r18.at 0))), (.var (.struct [28, 3, 9, 42, 40]) (.d (.struct [28, 3, 9, 42, 40]) (r18.at 1))), (.var (.struct [49, 3, 3]) (.d (.struct [49, 3, 3]) (r19.at 0))), (.var (.struct [28, 3, 9, 42, 40]) (.d (.struct [28, 3, 9, 42, 40]) (r19.at 1))), (.var (.struct [49, 3, 3]) (.d (.struct [49, 3, 3]) (r20.at 0))), (.var (.struct [28, 3, 9, 42, 40]) (.d (.struct [28, 3, 9, 42, 40]) (r20.at 1))), (.var (.struct [49, 3, 3]) (.d (.struct [49, 3, 3]) (r21.at 0))), (.var (.struct [28, 3, 9, 42, 40]) (.d (.struct [28, 3, 9, 42, 40]) (r21.at 1)))]
  | .e7 s8 s9 d10 d11 i12 d13 d14 d15 r16 r17 r18 r19 r20 r21 => k .ret (us 1 ((.d .str (dS s8)) :: ((.d .str (dS s9)) :: (us 1 ((.d (.slice 47) d10) :: (us 5 ((.d .bool (db false)) :: ((.d .bool d11) :: (us 1 ((.ptr 0 [] (.struct [49, 3, 3])) :: (us 2 ((.ptr 1 [] (.struct [28, 3, 9, 42, 40])) :: (us 3 ((.d (.int .i64) (di i12)) :: ((.d (.int .i64) r16) :: ((.d .bool r17) :: ((.ptr 3 [] (.struct [49, 3, 3])) :: ((.ptr 4 [] (.struct [28, 3, 9, 42, 40])) :: ((.d (.slice 38) (r18.at 2)) :: ((.ptr 5 [] (.struct [49, 3, 3])) :: ((.ptr 6 [] (.struct [28, 3, 9, 42, 40])) :: ((.d (.slice 38) (r19.at 2)) :: ((.ptr 7 [] (.struct [49, 3, 3])) :: ((.ptr 8 [] (.struct [28, 3, 9, 42, 40])) :: ((.d (.slice 38) (r20.at 2)) :: ((.ptr 9 [] (.struct [49, 3, 3])) :: ((.ptr 10 [] (.struct [28, 3, 9, 42, 40])) :: ((.d (.slice 38) (r21.at 2)) :: (us 66 ((.d (.int .i64) (di i12)) :: ((.d (.slice 47) d10) :: ((.d (.int .i64) (di (nI d10.elems.length))) :: ((.d .bool (db (ltI i12 (nI d10.elems.length)))) :: (us 2 ((.d (.struct [49, 3, 3]) d13) :: ((.d .str (dS s8)) :: ((.d (.int .i64) r16) :: ((.d (.int .i64) r16) :: ((.d .bool (db (ltI r16.i 0))) :: ((.d .bool (db false)) :: ((.ptr 0 [0] (.slice 42)) :: ((.d (.slice 42) (d13.at 0)) :: ((.d (.int .i64) r16) :: ((.cptr (.struct [3, 9, 9, 4, 3, 40]) (ix (d13.at 0).elems (r16.i).toNat)) :: ((.cptr (.int .i64) ((ix (d13.at 0).elems (r16.i).toNat).at 0)) :: ((.d (.int .i64) ((ix (d13.at 0).elems (r16.i).toNat).at 0)) :: ((.ptr 1 [1] (.int .i64)) :: ((.d (.int .i64) (d14.at 1)) :: ((.d .bool (db (neI ((ix (d13.at 0).elems (r16.i).toNat).at 0).i (d14.at 1).i))) :: ((.d .bool (db (neI ((ix (d13.at 0).elems (r16.i).toNat).at 0).i (d14.at 1).i))) :: ((.ptr 0 [0] (.slice 42)) :: ((.d (.slice 42) (d13.at 0)) :: ((.d (.int .i64) r16) :: ((.cptr (.struct [3, 9, 9, 4, 3, 40]) (ix (d13.at 0).elems (r16.i).toNat)) :: ((.d (.struct [3, 9, 9, 4, 3, 40]) (ix (d13.at 0).elems (r16.i).toNat)) :: ((.ptr 0 [2] (.int .i64)) :: ((.d (.int .i64) (d13.at 2)) :: ((.d .bool r17) :: ((.d .bool r17) :: ((.d .bool (db (!r17.b))) :: (us 1 ((.dtup [(.struct [49, 3, 3]), (.struct [28, 3, 9, 42, 40]), (.slice 38)] r18) :: ((.d (.struct [49, 3, 3]) d13) :: ((.d .str (dS s8)) :: ((.d .str (dS s9)) :: ((.d (.int .i64) (di (nI s9.size))) :: ((.d (.struct [34, 9, 9, 3, 3, 3]) (da [(di 9), (dS s8), (dS (bs [])), (di 0), (di 0), (di (nI s9.size))])) :: ((.dtup [(.struct [49, 3, 3]), (.struct [28, 3, 9, 42, 40]), (.slice 38)] r18) :: ((.d (.struct [49, 3, 3]) (r18.at 0)) :: ((.d (.struct [28, 3, 9, 42, 40]) (r18.at 1)) :: ((.d (.slice 38) (r18.at 2)) :: ((.dtup [(.struct [49, 3, 3]), (.struct [28, 3, 9, 42, 40]), (.slice 38)] r19) :: ((.d (.struct [49, 3, 3]) d13) :: ((.d .str (dS s8)) :: ((.d (.struct [34, 9, 9, 3, 3, 3]) (da [(di 1), (dS s8), (dS (bs [120])), (di 0), (di 0), (di 0)])) :: ((.dtup [(.struct [49, 3, 3]), (.struct [28, 3, 9, 42, 40]), (.slice 38)] r19) :: ((.d (.struct [49, 3, 3]) (r19.at 0)) :: ((.d (.struct [28, 3, 9, 42, 40]) (r19.at 1)) :: ((.d (.slice 38) (r19.at 2)) :: ((.dtup [(.struct [49, 3, 3]), (.struct [28, 3, 9, 42, 40]), (.slice 38)] r20) :: ((.d (.struct [49, 3, 3]) d13) :: ((.d .str (dS s8)) :: ((.d (.struct [34, 9, 9, 3, 3, 3]) (da [(di 6), (dS s8), (dS (bs [])), (di 0), (di 0), (di 0)])) :: ((.dtup [(.struct [49, 3, 3]), (.struct [28, 3, 9, 42, 40]), (.slice 38)] r20) :: ((.d (.struct [49, 3, 3]) (r20.at 0)) :: ((.d (.struct [28, 3, 9, 42, 40]) (r20.at 1)) :: ((.d (.slice 38) (r20.at 2)) :: ((.dtup [(.struct [49, 3, 3]), (.struct [28, 3, 9, 42, 40]), (.slice 38)] r21) :: ((.d (.struct [49, 3, 3]) d13) :: ((.d .str (dS s8)) :: ((.d (.struct [34, 9, 9, 3, 3, 3]) (da [(di 0), (dS s8), (dS (bs [])), (di 0), (di 0), (di 0)])) :: ((.dtup [(.struct [49, 3, 3]), (.struct [28, 3, 9, 42, 40]), (.slice 38)] r21) :: ((.d (.struct [49, 3, 3]) (r21.at 0)) :: ((.d (.struct [28, 3, 9, 42, 40]) (r21.at 1)) :: ((.d (.slice 38) (r21.at 2)) :: ((.ptr 4 [0] (.int .i64)) :: ((.d (.int .i64) ((r18.at 1).at 0)) :: ((.d .bool (db (neI ((r18.at 1).at 0).i 0))) :: ((.d .bool (db false)) :: ((.ptr 4 [2] .str) :: ((.d .str ((r18.at 1).at 2)) :: ((.d .str (dS s9)) :: ((.d .bool (db (!(eqS ((r18.at 1).at 2).s s9)))) :: ((.d .bool (db (!(eqS ((r18.at 1).at 2).s s9)))) :: ((.d .bool (db false)) :: ((.ptr 6 [0] (.int .i64)) :: ((.d (.int .i64) ((r19.at 1).at 0)) :: ((.d .bool (db (neI ((r19.at 1).at 0).i 5))) :: ((.d .bool (db (neI ((r19.at 1).at 0).i 5))) :: ((.d .bool (db false)) :: ((.ptr 8 [0] (.int .i64)) :: ((.d (.int .i64) ((r20.at 1).at 0)) :: ((.d .bool (db (neI ((r20.at 1).at 0).i 8))) :: ((.d .bool (db true)) :: ((.ptr 8 [0] (.int .i64)) :: ((.d (.int .i64) ((r20.at 1).at 0)) :: ((.d .bool (db (neI ((r20.at 1).at 0).i 9))) :: ((.d .bool (db (neI ((r20.at 1).at 0).i 9))) :: ((.d .bool (db (neI ((r20.at 1).at 0).i 9))) :: ((.d .bool (db false)) :: ((.ptr 10 [0] (.int .i64)) :: ((.d (.int .i64) ((r21.at 1).at 0)) :: ((.d .bool (db (neI ((r21.at 1).at 0).i 4))) :: ((.d .bool (db (neI ((r21.at 1).at 0).i 4))) :: (us 11 []))))))))))))))))))))))))))))))))))))))))))))))))))))))))))))))))))))))))))))))))))))))))))))))))))))))))))))))))))))))))))))) [(.var (.struct [49, 3, 3]) (.d (.struct [49, 3, 3]) d13)), (.var (.struct [28, 3, 9, 42, 40]) (.d (.struct [28, 3, 9, 42, 40]) d14)), (.var (.struct [28, 3, 9, 42, 40]) (.d (.struct [28, 3, 9, 42, 40]) d15)), (.var (.struct [49, 3, 3]) (.d (.struct [49, 3, 3]) (r18.at 0))), (.var (.struct [28, 3, 9, 42, 40]) (.d (.struct [28, 3, 9, 42, 40]) (r18.at 1))), (.var (.struct [49, 3, 3]) (.d (.struct [49, 3, 3]) (r19.at 0))), (.var (.struct [28, 3, 9, 42, 40]) (.d (.struct [28, 3, 9, 42, 40]) (r19.at 1))), (.var (.struct [49, 3, 3]) (.d (.struct [49, 3, 3]) (r20.at 0))), (.var (.struct [28, 3, 9, 42, 40]) (.d (.struct [28, 3, 9, 42, 40]) (r20.at 1))), (.var (.struct [49, 3, 3]) (.d (.struct [49, 3, 3]) (r21.at 0))), (.var (.struct [28, 3, 9, 42, 40]) (.d (.struct [28, 3, 9, 42, 40]) (r21.at 1)))]
  | .e8 s8 s9 d10 d11 i12 d13 d14 d15 r16 r17 r18 r19 r20 r21 => k .ret (us 1 ((.d .str (dS s8)) :: ((.d .str (dS s9)) :: (us 1 ((.d (.slice 47) d10) :: (us 5 ((.d .bool (db false)) :: ((.d .bool d11) :: (us 1 ((.ptr 0 [] (.struct [49, 3, 3])) :: (us 2 ((.ptr 1 [] (.struct [28, 3, 9, 42, 40])) :: (us 3 ((.d (.int .i64) (di i12)) :: ((.d (.int .i64) r16) :: ((.d .bool r17) :: ((.ptr 3 [] (.struct [49, 3, 3])) :: ((.ptr 4 [] (.struct [28, 3, 9, 42, 40])) :: ((.d (.slice 38) (r18.at 2)) :: ((.ptr 5 [] (.struct [49, 3, 3])) :: ((.ptr 6 [] (.struct [28, 3, 9, 42, 40])) :: ((.d (.slice 38) (r19.at 2)) :: ((.ptr 7 [] (.struct [49, 3, 3])) :: ((.ptr 8 [] (.struct [28, 3, 9, 42, 40])) :: ((.d (.slice 38) (r20.at 2)) :: ((.ptr 9 [] (.struct [49, 3, 3])) :: ((.ptr 10 [] (.struct [28, 3, 9, 42, 40])) :: ((.d (.slice 38) (r21.at 2)) :: (us 66 ((.d (.int .i64) (di i12)) :: ((.d (.slice 47) d10) :: ((.d (.int .i64) (di (nI d10.elems.length))) :: ((.d .bool (db (ltI i12 (nI d10.elems.length)))) :: (us 2 ((.d (.struct [49, 3, 3]) d13) :: ((.d .str (dS s8)) :: ((.d (.int .i64) r16) :: ((.d (.int .i64) r16) :: ((.d .bool (db (ltI r16.i 0))) :: ((.d .bool (db false)) :: ((.ptr 0 [0] (.slice 42)) :: ((.d (.slice 42) (d13.at 0)) :: ((.d (.int .i64) r16) :: ((.cptr (.struct [3, 9, 9, 4, 3, 40]) (ix (d13.at 0).elems (r16.i).toNat)) :: ((.cptr (.int .i64) ((ix (d13.at 0).elems (r16.i).toNat).at 0)) :: ((.d (.int .i64) ((ix (d13.at 0).elems (r16.i).toNat).at 0)) :: ((.ptr 1 [1] (.int .i64)) :: ((.d (.int .i64) (d14.at 1)) :: ((.d .bool (db (neI ((ix (d13.at 0).elems (r16.i).toNat).at 0).i (d14.at 1).i))) :: ((.d .bool (db (neI ((ix (d13.at 0).elems (r16.i).toNat).at 0).i (d14.at 1).i))) :: ((.ptr 0 [0] (.slice 42)) :: ((.d (.slice 42) (d13.at 0)) :: ((.d (.int .i64) r16) :: ((.cptr (.struct [3, 9, 9, 4, 3, 40]) (ix (d13.at 0).elems (r16.i).toNat)) :: ((.d (.struct [3, 9, 9, 4, 3, 40]) (ix (d13.at 0).elems (r16.i).toNat)) :: ((.ptr 0 [2] (.int .i64)) :: ((.d (.int .i64) (d13.at 2)) :: ((.d .bool r17) :: ((.d .bool r17) :: ((.d .bool (db (!r17.b))) :: (us 1 ((.dtup [(.struct [49, 3, 3]), (.struct [28, 3, 9, 42, 40]), (.slice 38)] r18) :: ((.d (.struct [49, 3, 3]) d13) :: ((.d .str (dS s8)) :: ((.d .str (dS s9)) :: ((.d (.int .i64) (di (nI s9.size))) :: ((.d (.struct [34, 9, 9, 3, 3, 3]) (da [(di 9), (dS s8), (dS (bs [])), (di 0), (di 0), (di (nI s9.size))])) :: ((.dtup [(.struct [49, 3, 3]), (.struct [28, 3, 9, 42, 40]), (.slice 38)] r18) :: ((.d (.struct [49, 3, 3]) (r18.at 0)) :: ((.d (.struct [28, 3, 9, 42, 40]) (r18.at 1)) :: ((.d (.slice 38) (r18.at 2)) :: ((.dtup [(.struct [49, 3, 3]), (.struct [28, 3, 9, 42, 40]), (.slice 38)] r19) :: ((.d (.struct [49, 3, 3]) d13) :: ((.d .str (dS s8)) :: ((.d (.struct [34, 9, 9, 3, 3, 3]) (da [(di 1), (dS s8), (dS (bs [120])), (di 0), (di 0), (di 0)])) :: ((.dtup [(.struct [49, 3, 3]), (.struct [28, 3, 9, 42, 40]), (.slice 38)] r19) :: ((.d (.struct [49, 3, 3]) (r19.at 0)) :: ((.d (.struct [28, 3, 9, 42, 40]) (r19.at 1)) :: ((.d (.slice 38) (r19.at 2)) :: ((.dtup [(.struct [49, 3, 3]), (.struct [28, 3, 9, 42, 40]), (.slice 38)] r20) :: ((.d (.struct [49, 3, 3]) d13) :: ((.d .str (dS s8)) :: ((.d (.struct [34, 9, 9, 3, 3, 3]) (da [(di 6), (dS s8), (dS (bs [])), (di 0), (di 0), (di 0)])) :: ((.dtup [(.struct [49, 3, 3]), (.struct [28, 3, 9, 42, 40]), (.slice 38)] r20) :: ((.d (.struct [49, 3, 3]) (r20.at 0)) :: ((.d (.struct [28, 3, 9, 42, 40]) (r20.at 1)) :: ((.d (.slice 38) (r20.at 2)) :: ((.dtup [(.struct [49, 3, 3]), (.struct [28, 3, 9, 42, 40]), (.slice 38)] r21) :: ((.d (.struct [49, 3, 3]) d13) :: ((.d .str (dS s8)) :: ((.d (.struct [34, 9, 9, 3, 3, 3]) (da [(di 0), (dS s8), (dS (bs [])), (di 0), (di 0), (di 0)])) :: ((.dtup [(.struct [49, 3, 3]), (.struct [28, 3, 9, 42, 40]), (.slice 38)] r21) :: ((.d (.struct [49, 3, 3]) (r21.at 0)) :: ((.d (.struct [28, 3, 9, 42, 40]) (r21.at 1)) :: ((.d (.slice 38) (r21.at 2)) :: ((.ptr 4 [0] (.int .i64)) :: ((.d (.int .i64) ((r18.at 1).at 0)) :: ((.d .bool (db (neI ((r18.at 1).at 0).i 0))) :: ((.d .bool (db false)) :: ((.ptr 4 [2] .str) :: ((.d .str ((r18.at 1).at 2)) :: ((.d .str (dS s9)) :: ((.d .bool (db (!(eqS ((r18.at 1).at 2).s s9)))) :: ((.d .bool (db (!(eqS ((r18.at 1).at 2).s s9)))) :: ((.d .bool (db false)) :: ((.ptr 6 [0] (.int .i64)) :: ((.d (.int .i64) ((r19.at 1).at 0)) :: ((.d .bool (db (neI ((r19.at 1).at 0).i 5))) :: ((.d .bool (db (neI ((r19.at 1).at 0).i 5))) :: ((.d .bool (db false)) :: ((.ptr 8 [0] (.int .i64)) :: ((.d (.int .i64) ((r20.at 1).at 0)) :: ((.d .bool (db (neI ((r20.at 1).at 0).i 8))) :: ((.d .bool (db false)) :: ((.tup []) :: ((.tup []) :: ((.tup []) :: ((.d .bool (db false)) :: ((.d .bool (db false)) :: ((.d .bool (db false)) :: ((.ptr 10 [0] (.int .i64)) :: ((.d (.int .i64) ((r21.at 1).at 0)) :: ((.d .bool (db (neI ((r21.at 1).at 0).i 4))) :: ((.d .bool (db (neI ((r21.at 1).at 0).i 4))) :: (us 11 []))))))))))))))))))))))))))))))))))))))))))))))))))))))))))))))))))))))))))))))))))))))))))))))))))))))))))))))))))))))))))))) [(.var (.struct [49, 3, 3]) (.d (.struct [49, 3, 3]) d13)), (.var (.struct [28, 3, 9, 42, 40]) (.d (.struct [28, 3, 9, 42, 40]) d14)), (.var (.struct [28, 3, 9, 42, 40]) (.d (.struct [28, 3, 9, 42, 40]) d15)), (.var (.struct [49, 3, 3]) (.d (.struct [49, 3, 3]) (r18.at 0))), (.var (.struct [28, 3, 9, 42, 40]) (.d (.struct [28, 3, 9, 42, 40]) (r18.at 1))), (.var (.struct [49, 3, 3]) (.d (.struct [49, 3, 3]) (r19.at 0))), (.var (.struct [28, 3, 9, 42, 40]) (.d (.struct [28, 3, 9, 42, 40]) (r19.at 1))), (.var (.struct [49, 3, 3]) (.d (.struct [49, 3, 3]) (r20.at 0))), (.var (.struct [28, 3, 9, 42, 40]) (.d (.struct [28, 3, 9, 42, 40]) (r20.at 1))), (.var (.struct [49, 3, 3]) (.d (.struct [49, 3, 3]) (r21.at 0))), (.var (.struct [28, 3, 9, 42, 40]) (.d (.struct [28, 3, 9, 42, 40]) (r21.at 1)))]
  | .e9 s8 s9 d10 d11 i12 d13 d14 d15 => k (.exit 0) (us 1 ((.d .str (dS s8)) :: ((.d .str (dS s9)) :: (us 1 ((.d (.slice 47) d10) :: (us 6 ((.d .bool d11) :: (us 1 ((.ptr 0 [] (.struct [49, 3, 3])) :: (us 2 ((.ptr 1 [] (.struct [28, 3, 9, 42, 40])) :: (us 3 ((.d (.int .i64) (di i12)) :: (us 80 ((.d (.int .i64) (di i12)) :: ((.d (.slice 47) d10) :: ((.d (.int .i64) (di (nI d10.elems.length))) :: ((.d .bool (db (ltI i12 (nI d10.elems.length)))) :: (us 103 []))))))))))))))))))) [(.var (.struct [49, 3, 3]) (.d (.struct [49, 3, 3]) d13)), (.var (.struct [28, 3, 9, 42, 40]) (.d (.struct [28, 3, 9, 42, 40]) d14)), (.var (.struct [28, 3, 9, 42, 40]) (.d (.struct [28, 3, 9, 42, 40]) d15))]
def ps15 : List PV := (up 1 ((.d .str .str) :: ((.d .str .str) :: (up 1 ((.d (.slice 47) .x) :: (up 6 ((.d .bool .x) :: (up 1 ((.ptr 0 [] (.struct [49, 3, 3])) :: (up 2 ((.ptr 1 [] (.struct [28, 3, 9, 42, 40])) :: (up 3 ((.d (.int .i64) (.int .i64)) :: (up 187 []))))))))))))))
def qs15 : List PO := [(.var (.struct [49, 3, 3]) (.d (.struct [49, 3, 3]) .x)), (.var (.struct [28, 3, 9, 42, 40]) (.d (.struct [28, 3, 9, 42, 40]) .x)), (.var (.struct [28, 3, 9, 42, 40]) (.d (.struct [28, 3, 9, 42, 40]) .x))]
noncomputable def sum15 (M : Nat) : Sum := sumS [1, 2, 4, 11, 13, 16, 20] ps15 qs15 [] of15 (st15 M) ex15 M
theorem sok15 (M : Nat) : SumOk (loopRd (e M) 10 15) (e M) (call (e M) 11) 10 0 (loopAt (e M) 10 15) (sum15 M) :=
  sumOk_st (T := tblOf (t10_0 M)) (n0 := 3) (lv := lv15) (t10_0_ok M) (by kernel_rfl) rfl (by intro ls s h; unfold of15 at h; (repeat' split at h) <;> simp at h; subst h; rfl) (by intro s; kernel_rfl) (by intro s; kernel_rfl) (by intro s nx k; kernel_rfl)
noncomputable def t10_1 (M : Nat) : List Ent := ⟨10, 11, 0, 15, sum15 M⟩ :: t10_0 M
theorem t10_1_ok (M : Nat) : AllOk (e M) (tblOf (t10_1 M)) := (t10_0_ok M).add ⟨10, 11, 0, 15, sum15 M⟩ (by kernel_rfl) (sok15 M)
def s (M : Nat) (p0 : D) (p1 : ByteArray) (p2 : ByteArray) (p3 : Int) (p4 : D) : Option D :=
  (bd (F17.s FUEL) fun r1 => (cond (!r1.b) (some (db false)) (bd (F18.s FUEL p0) fun r2 => (cond r2.b (bd (F18.s FUEL p4) fun r3 => (cond (!r3.b) (some r1) (cond (gtI (nI p2.size) 600) (some r1) (cond (gtI (nI p1.size) 200) (some r1) (bd (F19.s FUEL (da [(dl false []), (di 0), (di 0)]) p0) fun r4 => (bd (F20.s FUEL (r4.at 0) (da [(di 0), (dS p1), (dS (bs [])), (di 0), (di 0), (di 0)])) fun r5 => (cond (!(eqS p2 (bs []))) (bd (F20.s FUEL (r5.at 0) (da [(di 1), (dS p1), (dS p2), (di 0), (di 0), (di 0)])) fun r6 => (bd (F20.s FUEL (r6.at 0) (da [(di 2), (dS p1), (dS (bs [])), (di p3), (di 0), (di 0)])) fun r7 => (cond (neI ((r5.at 1).at 0).i 0) (some r1) (cond (neI ((r7.at 1).at 0).i 0) (some r1) (goS (st15 M) M ⟨p1, p2, p4, r1, 0, (r7.at 0), (r5.at 1), (r7.at 1)⟩ fun x => match x with | .e0 s8 s9 d10 d11 i12 d13 d14 d15 r16 => (some (db false)) | .e1 s8 s9 d10 d11 i12 d13 d14 d15 r16 => (some (db false)) | .e2 s8 s9 d10 d11 i12 d13 d14 d15 r16 r17 => (some d11) | .e3 s8 s9 d10 d11 i12 d13 d14 d15 r16 r17 r18 r19 r20 r21 => (some (db false)) | .e4 s8 s9 d10 d11 i12 d13 d14 d15 r16 r17 r18 r19 r20 r21 => (some (db false)) | .e5 s8 s9 d10 d11 i12 d13 d14 d15 r16 r17 r18 r19 r20 r21 => (some (db false)) | .e6 s8 s9 d10 d11 i12 d13 d14 d15 r16 r17 r18 r19 r20 r21 => (some (db false)) | .e7 s8 s9 d10 d11 i12 d13 d14 d15 r16 r17 r18 r19 r20 r21 => (some (db false)) | .e8 s8 s9 d10 d11 i12 d13 d14 d15 r16 r17 r18 r19 r20 r21 => (some (db false)) | .e9 s8 s9 d10 d11 i12 d13 d14 d15 => (some d11)))))) (bd (F20.s FUEL (r5.at 0) (da [(di 2), (dS p1), (dS (bs [])), (di p3), (di 0), (di 0)])) fun r24 => (cond (neI ((r5.at 1).at 0).i 0) (some r1) (cond (neI ((r24.at 1).at 0).i 0) (some r1) (goS (st15 M) M ⟨p1, p2, p4, r1, 0, (r24.at 0), (r5.at 1), (r24.at 1)⟩ fun x => match x with | .e0 s8 s9 d10 d11 i12 d13 d14 d15 r16 => (some (db false)) | .e1 s8 s9 d10 d11 i12 d13 d14 d15 r16 => (some (db false)) | .e2 s8 s9 d10 d11 i12 d13 d14 d15 r16 r17 => (some d11) | .e3 s8 s9 d10 d11 i12 d13 d14 d15 r16 r17 r18 r19 r20 r21 => (some (db false)) | .e4 s8 s9 d10 d11 i12 d13 d14 d15 r16 r17 r18 r19 r20 r21 => (some (db false)) | .e5 s8 s9 d10 d11 i12 d13 d14 d15 r16 r17 r18 r19 r20 r21 => (some (db false)) | .e6 s8 s9 d10 d11 i12 d13 d14 d15 r16 r17 r18 r19 r20 r21 => (some (db false)) | .e7 s8 s9 d10 d11 i12 d13 d14 d15 r16 r17 r18 r19 r20 r21 => (some (db false)) | .e8 s8 s9 d10 d11 i12 d13 d14 d15 r16 r17 r18 r19 r20 r21 => (some (db false)) | .e9 s8 s9 d10 d11 i12 d13 d14 d15 => (some d11)))))))))))) (some r1)))))
theorem run (M : Nat) (p0 : D) (p1 : ByteArray) (p2 : ByteArray) (p3 : Int) (p4 : D) : callS (e M) (tblOf (t10_1 M)) 12 (.fn 10) [.d (.slice 47) p0, .d .str (dS p1), .d .str (dS p2), .d (.int .i64) (di p3), .d (.slice 47) p4] [] (fun v H => finish ty [4] v H) = s M p0 p1 p2 p3 p4 := by kernel_rfl
noncomputable abbrev t (M : Nat) : List Ent := t10_1 M
theorem t_ok (M : Nat) : AllOk (e M) (tblOf (t M)) := t10_1_ok M
def c : Con := { run := fun ds => match ds with | [p0, p1, p2, p3, p4] => s FUEL p0 p1.s p2.s p3.i p4 | _ => none, fresh := false, plain := true }
theorem fun_at : Tryd.prog.funcs[10]? = some Tryd.f10 := by kernel_rfl
theorem params : Tryd.f10.params.toList.map ty = [(.slice 47), .str, .str, (.int .i64), (.slice 47)] := by kernel_rfl
theorem results : Tryd.f10.resultTypes.toList = [4] := by kernel_rfl
theorem flat : Tryd.f10.resultTypes.toList.all (fun t => K.flat ty 20 (ty t)) = true := by kernel_rfl
theorem ok : ConOk (10, c) := by
  intro fn hfn
  obtain rfl : Tryd.f10 = fn := Option.some.inj (fun_at.symm.trans hfn)
  refine contract_flat (n := 20) hgl (fun _ => flat) (fun ds r hh0 hr => ?_)
  rw [params] at hh0
  obtain ⟨p0, ds0, rfl, h0, hh1⟩ := hass_cons hh0
  obtain ⟨p1, ds1, rfl, h1, hh2⟩ := hass_cons hh1
  obtain ⟨p1, rfl⟩ := has_str h1
  obtain ⟨p2, ds2, rfl, h2, hh3⟩ := hass_cons hh2
  obtain ⟨p2, rfl⟩ := has_str h2
  obtain ⟨p3, ds3, rfl, h3, hh4⟩ := hass_cons hh3
  obtain ⟨p3, rfl⟩ := has_int h3
  obtain ⟨p4, ds4, rfl, h4, hh5⟩ := hass_cons hh4
  obtain rfl := hass_nil hh5
  refine ⟨e FUEL, DEPTH, tblOf (t FUEL), envOk (allCons F17.ok (allCons F18.ok (allCons F19.ok (allCons F20.ok (allCons F21.ok (allCons F26.ok allNil)))))) allNil, rfl, t_ok FUEL, ?_⟩
  rw [params, results]
  exact (run FUEL p0 p1 p2 p3 p4).trans hr
end F10
end Go.AM.SD
namespace Go.AM.SD
open Go Go.AM Go.Proofs Go.RowKit
namespace F74
end F74
namespace F41
end F41
namespace F23
end F23
namespace F7
end F7
namespace F8
end F8
end Go.AM.SD
namespace Go.AM.SD
open Go Go.AM
def newS (s : St) (n : ByteArray) : St := ⟨true, s.files ++ [⟨s.last + 1, n, bs [], false, 0, false, []⟩], s.last + 1, s.floor⟩
theorem create_res (s : St) (o : Mo) : (∃ e : Int, e ≠ 0 ∧ createM s o = stay s e) ∨
    (createM s o = ⟨newS s o.name, ⟨0, s.last + 1, bs [], zeroF, false, []⟩, true, [⟨0, s.last + 1, o.name, 0, 0, zeros⟩]⟩ ∧ (∀ f ∈ s.files, f.name ≠ o.name) ∧ s.last < 1099511627776 ∧ s.files.length < 12) := by
  unfold createM
  split
  · exact .inl ⟨2, by simp, rfl⟩
  split
  · exact .inl ⟨4, by simp, rfl⟩
  split
  · exact .inl ⟨10, by simp, rfl⟩
  split
  · exact .inl ⟨10, by simp, rfl⟩
  rename_i h1 h2 h3 h4
  refine .inr ⟨rfl, fun f hf e => h2 (findI_nonneg.2 ?_), by omega, by omega⟩
  simp only [List.any_eq_true, decide_eq_true_eq]
  exact ⟨f, hf, e⟩
theorem doM_create (sum : ByteArray → List Int) (s : St) (o : Mo) (h : o.kind = 0) : doM sum s o = createM s o := by
  unfold doM
  rw [if_neg (by omega), if_neg (by omega), if_pos h]
theorem mo_ok {k : Int} {n t : ByteArray} {tm a b : Int} (hk : i64ok k) (htm : i64ok tm) (ha : i64ok a) (hb : i64ok b) (hn : n.size ≤ 1000) (ht : t.size ≤ 1000) : MoOk ⟨k, n, t, tm, a, b⟩ := ⟨hk, htm, ha, hb, hn, ht⟩
theorem z64 : i64ok 0 := by simp [i64ok]
end Go.AM.SD
namespace Go.AM.SD
open Go Go.AM
theorem findI_at {s : St} {n : ByteArray} {f : Fl} (h : atName s n = some f) : ∃ i, ∃ hi : i < s.files.length, findI (fun f : Fl => decide (f.name = n)) s.files = (i : Int) ∧ s.files[i] = f := by
  obtain ⟨i, hi, h1, h2, _⟩ := at_findM h
  exact ⟨i, hi, findI_some h1, h2⟩
end Go.AM.SD
namespace Go.AM.SD
open Go Go.AM
theorem kept_spec (f : Fl) (floor : Int) : F26.s FUEL f.enc floor = some (db (f.sealed && decide (mayN f floor ≠ 0))) := by
  unfold F26.s
  have h3 : (f.enc.at 3).b = f.sealed := rfl
  rw [h3]
  by_cases hse : f.sealed = true
  · refine ct hse (bdS (may_spec f floor) ?_)
    rw [hse]
    show some (db (neI (mayN f floor) 0)) = _
    by_cases h : mayN f floor = 0
    · simp [h, neI]
    · simp [h, neI]
  · have : f.sealed = false := by simpa using hse
    exact cf this (by rw [this]; rfl)
theorem extract_all (d : ByteArray) : d.extract 0 d.size = d := by
  apply ByteArray.ext
  apply Array.toList_inj.1
  simp
theorem doM_change (sum : ByteArray → List Int) (s : St) (o : Mo) (h1 : 1 ≤ o.kind) (h6 : o.kind ≤ 6) : doM sum s o = changeM sum s o := by
  unfold doM
  rw [if_neg (by omega), if_neg (by omega), if_neg (by omega), if_neg (by omega), if_neg (by omega), if_neg (by omega), if_neg (by omega), if_neg (by omega)]
theorem doM_read (sum : ByteArray → List Int) (s : St) (o : Mo) (h : o.kind = 9) : doM sum s o = readM s o := by
  unfold doM
  rw [if_neg (by omega), if_neg (by omega), if_neg (by omega), if_neg (by omega), if_neg (by omega), if_pos h]
theorem change_at {sum : ByteArray → List Int} {s : St} {o : Mo} {f : Fl} (h : atName s o.name = some f) :
    ((deedF f o s.floor).2 ≠ 0 ∧ changeM sum s o = stay s (deedF f o s.floor).2) ∨
    ((deedF f o s.floor).2 = 0 ∧ (changeM sum s o).an.err = 0 ∧ (o.kind ≠ 6 → (deedF f o s.floor).1.name = f.name → atName (changeM sum s o).st o.name = some (deedF f o s.floor).1)) := by
  obtain ⟨i, hi, hx, he, hnm⟩ := at_findM h
  unfold changeM
  rw [hx]
  dsimp only
  rw [List.getElem?_eq_getElem hi, he]
  dsimp only
  unfold fileDo
  by_cases hd : (deedF f o s.floor).2 = 0
  · right
    rw [if_pos hd]
    dsimp only
    rw [if_pos rfl]
    refine ⟨hd, ?_, fun h6 hn => ?_⟩
    · split <;> rfl
    · rw [if_neg h6]
      have hfirst : ∀ j (hj : j < i), decide ((s.files[j]'(by omega)).name = o.name) = false := by
        unfold findM at hx
        rw [List.findIdx?_eq_some_iff_getElem] at hx
        obtain ⟨_, _, h2⟩ := hx
        intro j hj
        have := h2 j hj
        simpa using this
      exact find_set_hit hi hfirst (by rw [hn, hnm]; simp)
  · left
    rw [if_neg hd]
    dsimp only
    rw [if_neg hd]
    exact ⟨hd, rfl⟩
theorem read_at {s : St} {o : Mo} {f : Fl} (h : atName s o.name = some f) : readM s o = ⟨s, ⟨(readF f o.a o.b).2, 0, (readF f o.a o.b).1, zeroF, false, []⟩, false, []⟩ := by
  obtain ⟨i, hi, hx, he, hnm⟩ := at_findM h
  unfold readM
  rw [hx]
  dsimp only
  rw [List.getElem?_eq_getElem hi, he]
theorem keeps_loop (nn : Bool) (more : List Mo) (hl : ∀ o ∈ more, MoOk o) (hlen : more.length ≤ 30) (n data : ByteArray) (hn : n.size ≤ 200) (hdn : data.size ≤ 600) (hname : nameB n = true) (id : Int) (s : St) (hs : StOk s)
    (f : Fl) (hf : atName s n = some f) (hid : f.id = id) (hse : f.sealed = true) (hda : f.data = data) (d14 d15 : D) (h14 : (d14.at 1).i = id)
    (K : F10.X15 → Option D) (h2 : ∀ s8 s9 d10 i12 d13 d14 d15 r16 r17, K (.e2 s8 s9 d10 (db true) i12 d13 d14 d15 r16 r17) = some (db true)) (h9 : ∀ s8 s9 d10 i12 d13 d14 d15, K (.e9 s8 s9 d10 (db true) i12 d13 d14 d15) = some (db true)) :
    goS (F10.st15 FUEL) FUEL ⟨n, data, dl nn (more.map Mo.enc), db true, 0, s.enc, d14, d15⟩ K = some (db true) := by
  refine goS_rule (fun t : F10.S15 => ∃ (k : Nat) (s : St) (f : Fl), t = ⟨n, data, dl nn (more.map Mo.enc), db true, (k : Int), s.enc, d14, d15⟩ ∧ k ≤ more.length ∧ StOk s ∧ atName s n = some f ∧ f.id = id ∧ f.sealed = true ∧ f.data = data) (fun t => more.length - t.i12.toNat) (fun o => o = some (db true)) ?_ _ _ ⟨0, s, f, rfl, by omega, hs, hf, hid, hse, hda⟩ (by simp [FUEL]; omega)
  rintro _ rec ⟨k, s, f, rfl, hk, hs, hf, hid, hse, hda⟩ hrec
  simp only [F10.st15]
  by_cases h1 : k < more.length
  · have hadd : ad .i64 (k : Int) 1 = ((k + 1 : Nat) : Int) := by rw [ad64 (by omega) (by omega)]; rfl
    obtain ⟨i, hi, e1, e2⟩ := findI_at hf
    have hnm : f.name = n := by obtain ⟨_, _, _, _, h⟩ := at_findM hf; exact h
    have hsl := hs.len
    have h0 : s.enc.at 0 = dl s.nn (s.files.map Fl.enc) := rfl
    have hfl : (s.enc.at 2).i = s.floor := rfl
    rw [h0, hfl]
    refine ct (by simp; omega) (bdS (find_specM s n (by omega)) ?_)
    rw [e1]
    have g1 : ix (s.files.map Fl.enc) ((di (i : Int)).i).toNat = f.enc := by
      show ix (s.files.map Fl.enc) (i : Int).toNat = _
      rw [Int.toNat_natCast, ix_map hi, e2]
    simp only [elems_slice]
    rw [g1]
    refine cf (by simp) (ct (by simp; omega) (cf (by show neI f.id (d14.at 1).i = false; rw [hid, h14]; simp) (ct (by simp; omega) (bdS (kept_spec f s.floor) ?_))))
    by_cases hm : mayN f s.floor = 0
    · have : (f.sealed && decide (mayN f s.floor ≠ 0)) = false := by simp [hm]
      rw [this]
      exact ct rfl (h2 _ _ _ _ _ _ _ _ _)
    · have hkb : (f.sealed && decide (mayN f s.floor ≠ 0)) = true := by simp [hm, hse]
      rw [hkb]
      have oR : MoOk ⟨9, n, bs [], 0, 0, (data.size : Int)⟩ := mo_ok (by simp [i64ok]) z64 z64 (by unfold i64ok; omega) (by omega) (by simp)
      have oA : MoOk ⟨1, n, bs [120], 0, 0, 0⟩ := mo_ok (by simp [i64ok]) z64 z64 z64 (by omega) (by simp [bs, ByteArray.size])
      have oD : MoOk ⟨6, n, bs [], 0, 0, 0⟩ := mo_ok (by simp [i64ok]) z64 z64 z64 (by omega) (by simp)
      have oC : MoOk ⟨0, n, bs [], 0, 0, 0⟩ := mo_ok z64 z64 z64 z64 (by omega) (by simp)
      have rR : doM shaL s ⟨9, n, bs [], 0, 0, (data.size : Int)⟩ = ⟨s, ⟨0, 0, data, zeroF, false, []⟩, false, []⟩ := by
        rw [doM_read _ _ _ rfl, read_at (f := f) hf]
        have : readF f 0 (data.size : Int) = (data, 0) := by
          unfold readF
          rw [hda, if_neg (by omega), if_neg (by omega), if_neg (by omega)]
          have : data.extract (Int.toNat 0) (Int.toNat (data.size : Int)) = data := by
            rw [Int.toNat_natCast]; exact extract_all data
          rw [this]
        show (⟨s, ⟨(readF f 0 (data.size : Int)).2, 0, (readF f 0 (data.size : Int)).1, zeroF, false, []⟩, false, []⟩ : Res) = _
        rw [this]
      have rA : doM shaL s ⟨1, n, bs [120], 0, 0, 0⟩ = stay s 5 := by
        rw [doM_change _ _ _ (by simp) (by simp)]
        have hd : deedF f ⟨1, n, bs [120], 0, 0, 0⟩ s.floor = (f, 5) := by unfold deedF appendF; simp [hse]
        rcases change_at (sum := shaL) (o := ⟨1, n, bs [120], 0, 0, 0⟩) hf with ⟨_, h⟩ | ⟨h, _⟩
        · rw [h, hd]
        · rw [hd] at h; simp at h
      have rD : doM shaL s ⟨6, n, bs [], 0, 0, 0⟩ = stay s (mayN f s.floor) := by
        rw [doM_change _ _ _ (by simp) (by simp)]
        have hd : deedF f ⟨6, n, bs [], 0, 0, 0⟩ s.floor = (zeroF, mayN f s.floor) := by unfold deedF; simp
        rcases change_at (sum := shaL) (o := ⟨6, n, bs [], 0, 0, 0⟩) hf with ⟨_, h⟩ | ⟨h, _⟩
        · rw [h, hd]
        · rw [hd] at h; exact absurd h hm
      have rC : doM shaL s ⟨0, n, bs [], 0, 0, 0⟩ = stay s 4 := by
        rw [doM_create _ _ _ rfl]
        unfold createM
        have : 0 ≤ findI (fun f : Fl => decide (f.name = n)) s.files := by rw [e1]; omega
        dsimp only
        rw [if_neg (by simp [hname]), if_pos this]
      have sR := do_specM s _ hs oR
      have sA := do_specM s _ hs oA
      have sD := do_specM s _ hs oD
      have sC := do_specM s _ hs oC
      rw [rR] at sR; rw [rA] at sA; rw [rD] at sD; rw [rC] at sC
      refine cf rfl (bdS sR (bdS sA (bdS sD (bdS sC ?_))))
      have hnext : ∀ d13, d13 = (doM shaL s more[k]).st.enc → rec ⟨n, data, dl nn (more.map Mo.enc), db true, ad .i64 (k : Int) 1, d13, d14, d15⟩ = some (db true) := by
        rintro _ rfl
        have ho := hl _ (List.getElem_mem h1)
        obtain ⟨f', g1, g2, g3, g4⟩ := do_keeps (sum := shaL) hs ho hf hse hm
        rw [hadd]
        exact hrec _ ⟨k + 1, _, f', rfl, by omega, do_ok hs ho, g1, by rw [g2]; exact hid, g3, by rw [g4]; exact hda⟩ (by simp; omega)
      have hstep : ∀ Z : Option D, cond (inb (k : Int) (more.map Mo.enc).length) (bd (F20.s FUEL s.enc (ix (more.map Mo.enc) (Int.toNat (k : Int)))) fun r22 => rec ⟨n, data, dl nn (more.map Mo.enc), db true, ad .i64 (k : Int) 1, r22.at 0, d14, d15⟩) Z = some (db true) := by
        intro Z
        refine ct (by simp; omega) ?_
        rw [Int.toNat_natCast, ix_map h1]
        exact bdS (do_specM s more[k] hs (hl _ (List.getElem_mem h1))) (hnext _ rfl)
      refine cf rfl (cf (by show (!eqS data data) = false; simp) (cf rfl ?_))
      have hmay : mayN f s.floor = 8 ∨ mayN f s.floor = 9 := by
        unfold mayN at hm ⊢
        rw [hse] at hm ⊢
        simp only [Bool.true_eq_false, if_false] at hm ⊢
        split
        · exact .inl rfl
        · split
          · exact .inr rfl
          · rename_i h1 h2
            rw [if_neg h1, if_neg h2] at hm
            exact absurd rfl hm
      rcases hmay with h8 | h9'
      · refine cf (by show neI (mayN f s.floor) 8 = false; rw [h8]; rfl) (cf rfl ?_)
        exact hstep _
      · refine ct (by show neI (mayN f s.floor) 8 = true; rw [h9']; rfl) (cf (by show neI (mayN f s.floor) 9 = false; rw [h9']; rfl) (cf rfl ?_))
        exact hstep _
  · exact cf (by simp; omega) (h9 _ _ _ _ _ _ _)
theorem keeps_law (nn : Bool) (l : List Mo) (hs : ∀ o ∈ l, o.ok) (n data : ByteArray) (until_ : Int) (hu : i64ok until_) (nm : Bool) (more : List Mo) (hsm : ∀ o ∈ more, o.ok) :
    F10.s FUEL (dl nn (l.map Mo.enc)) n data until_ (dl nm (more.map Mo.enc)) = some (db true) := by
  unfold F10.s
  refine bdS works_M (cf rfl (bdS (few_specM nn l) ?_))
  cases hf : fewM l with
  | false => exact cf rfl rfl
  | true =>
    obtain ⟨hlen, hl⟩ := few_okM hf hs
    refine ct rfl (bdS (few_specM nm more) ?_)
    cases hfm : fewM more with
    | false => exact ct rfl rfl
    | true =>
      obtain ⟨hlenm, hlm⟩ := few_okM hfm hsm
      refine cf rfl ?_
      by_cases hd6 : 600 < data.size
      · exact ct (by simp; omega) rfl
      refine cf (by simp; omega) ?_
      by_cases hn2 : 200 < n.size
      · exact ct (by simp; omega) rfl
      refine cf (by simp; omega) (bdS (run_spec emptyS nn l emptyS_ok hl (by omega)) ?_)
      have hS : StOk (runM shaL emptyS l).st := runFrom_ok emptyS_ok hl
      generalize hR : runM shaL emptyS l = R at hS
      have oC : MoOk ⟨0, n, bs [], 0, 0, 0⟩ := mo_ok z64 z64 z64 z64 (by omega) (by simp)
      have oA : MoOk ⟨1, n, data, 0, 0, 0⟩ := mo_ok (by simp [i64ok]) z64 z64 z64 (by omega) (by omega)
      have oS : MoOk ⟨2, n, bs [], until_, 0, 0⟩ := mo_ok (by simp [i64ok]) hu z64 z64 (by omega) (by simp)
      refine bdS (do_specM R.st _ hS oC) ?_
      have hC := do_ok (sum := shaL) hS oC
      rw [doM_create _ _ _ rfl] at hC ⊢
      generalize hrc : createM R.st ⟨0, n, bs [], 0, 0, 0⟩ = rc at hC
      have hcr : rc.an.err = 0 → nameB n = true ∧ atName rc.st n = some ⟨R.st.last + 1, n, bs [], false, 0, false, []⟩ ∧ rc.an.n = R.st.last + 1 := by
        intro h
        rcases create_res R.st ⟨0, n, bs [], 0, 0, 0⟩ with ⟨e, he, hc⟩ | ⟨hc, hno, _, _⟩
        · rw [← hrc, hc] at h; exact absurd h he
        · rw [hrc] at hc
          have hst : rc.st = newS R.st n := by rw [hc]
          refine ⟨?_, ?_, by rw [hc]⟩
          · have := (hC.files ⟨R.st.last + 1, n, bs [], false, 0, false, []⟩ (by rw [hst]; simp [newS])).name
            exact this
          · rw [hst]
            show (R.st.files ++ [_]).find? _ = _
            rw [List.find?_append]
            have : R.st.files.find? (fun f => decide (f.name = n)) = none := by
              rw [List.find?_eq_none]
              intro f hf
              simpa using hno f hf
            rw [this]
            simp
      have fin : ∀ (s : St), StOk s → (rc.an.err = 0 → ∃ f, atName s n = some f ∧ f.id = R.st.last + 1 ∧ f.data = data) →
          ∀ (K : F10.X15 → Option D), (∀ s8 s9 d10 i12 d13 d14 d15 r16 r17, K (.e2 s8 s9 d10 (db true) i12 d13 d14 d15 r16 r17) = some (db true)) → (∀ s8 s9 d10 i12 d13 d14 d15, K (.e9 s8 s9 d10 (db true) i12 d13 d14 d15) = some (db true)) →
          (bd (F20.s FUEL s.enc (da [di 2, dS n, dS (bs []), di until_, di 0, di 0])) fun r7 => cond (neI ((rc.enc.at 1).at 0).i 0) (some (db true)) (cond (neI ((r7.at 1).at 0).i 0) (some (db true)) (goS (F10.st15 FUEL) FUEL ⟨n, data, dl nm (more.map Mo.enc), db true, 0, r7.at 0, rc.enc.at 1, r7.at 1⟩ K))) = some (db true) := by
        intro s hso hfs K hK2 hK9
        refine bdS (do_specM s _ hso oS) ?_
        by_cases he : rc.an.err = 0
        case neg => exact ct (by show neI rc.an.err 0 = true; simpa using he) rfl
        refine cf (by show neI rc.an.err 0 = false; simpa using he) ?_
        obtain ⟨h1, h2, h3⟩ := hcr he
        obtain ⟨f, hf1, hf2, hf3⟩ := hfs he
        have hSo := do_ok (sum := shaL) hso oS
        rw [doM_change _ _ _ (by simp) (by simp)] at hSo ⊢
        have hdd : deedF f ⟨2, n, bs [], until_, 0, 0⟩ s.floor = sealF f until_ := by unfold deedF; simp
        have hnm : f.name = n := by obtain ⟨_, _, _, _, h⟩ := at_findM hf1; exact h
        rcases change_at (sum := shaL) (o := ⟨2, n, bs [], until_, 0, 0⟩) hf1 with ⟨hne, h⟩ | ⟨h0, hz, hat⟩
        · rw [h]
          exact ct (by show neI (deedF f ⟨2, n, bs [], until_, 0, 0⟩ s.floor).2 0 = true; simpa using hne) rfl
        · refine cf (by show neI (changeM shaL s ⟨2, n, bs [], until_, 0, 0⟩).an.err 0 = false; rw [hz]; rfl) ?_
          rw [hdd] at h0 hat
          have hsf : (sealF f until_).1.name = f.name ∧ (sealF f until_).1.id = f.id ∧ (sealF f until_).1.sealed = true ∧ (sealF f until_).1.data = f.data := by
            unfold sealF at h0 ⊢
            split at h0
            · simp at h0
            split at h0
            · simp at h0
            rename_i g1 g2
            rw [if_neg g1, if_neg g2]
            exact ⟨rfl, rfl, rfl, rfl⟩
          refine keeps_loop nm more hlm hlenm n data (by omega) (by omega) h1 (R.st.last + 1) _ hSo (sealF f until_).1 (hat (by simp) hsf.1) (by rw [hsf.2.1]; exact hf2) hsf.2.2.1 (by rw [hsf.2.2.2]; exact hf3) _ _ ?_ K hK2 hK9
          show rc.an.n = _
          exact h3
      by_cases hde : data = bs []
      · refine cf (by simp [hde]) ?_
        exact fin rc.st hC (fun h => ⟨_, (hcr h).2.1, rfl, hde.symm⟩) _ (fun _ _ _ _ _ _ _ _ _ => rfl) (fun _ _ _ _ _ _ _ => rfl)
      · refine ct (by simpa using hde) (bdS (do_specM rc.st _ hC oA) ?_)
        have hA := do_ok (sum := shaL) hC oA
        refine fin (doM shaL rc.st ⟨1, n, data, 0, 0, 0⟩).st hA (fun h => ?_) _ (fun _ _ _ _ _ _ _ _ _ => rfl) (fun _ _ _ _ _ _ _ => rfl)
        obtain ⟨h1, h2, h3⟩ := hcr h
        rw [doM_change _ _ _ (by simp) (by simp)]
        have hdd : ∀ fl : Int, deedF ⟨R.st.last + 1, n, bs [], false, 0, false, []⟩ ⟨1, n, data, 0, 0, 0⟩ fl = (⟨R.st.last + 1, n, bs [] ++ data, false, 0, false, []⟩, 0) := by
          intro fl
          unfold deedF appendF
          have hbz : (bs []).size = 0 := rfl
          simp [hde]
          omega
        rcases change_at (sum := shaL) (o := ⟨1, n, data, 0, 0, 0⟩) h2 with ⟨hne, _⟩ | ⟨_, _, hat⟩
        · rw [hdd] at hne; exact absurd rfl hne
        · rw [hdd] at hat
          exact ⟨_, hat (by simp) rfl, rfl, by show bs [] ++ data = data; apply ByteArray.ext; simp [bs]⟩
theorem pure10 : ∀ ds, D.hass ty ds [(.slice 47), .str, .str, (.int .i64), (.slice 47)] → D.wfs ds → F10.c.run ds = some (.bool true) := by
  intro ds h hw
  obtain ⟨d0, _, rfl, h0, h⟩ := hassC h
  obtain ⟨d1, _, rfl, h1, h⟩ := hassC h
  obtain ⟨d2, _, rfl, h2, h⟩ := hassC h
  obtain ⟨d3, _, rfl, h3, h⟩ := hassC h
  obtain ⟨d4, _, rfl, h4, h⟩ := hassC h
  obtain rfl := hass0 h
  simp only [D.wfs] at hw
  obtain ⟨nn, l, rfl, hl⟩ := mos_of h0 hw.1
  obtain ⟨n, rfl⟩ := has_str h1
  obtain ⟨dd, rfl⟩ := has_str h2
  obtain ⟨u, rfl⟩ := has_int h3
  obtain ⟨nm, m, rfl, hm⟩ := mos_of h4 hw.2.2.2.2.1
  exact keeps_law nn l hl n dd u (wf_i64 hw.2.2.2.1) nm m hm
end Go.AM.SD
