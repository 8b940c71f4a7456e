/- Part 10 of the proof: the abstract machine, what the functions compute, and plain laws over that. -/
import Derived.Test.YtonknblidjpfeaaDoorMd9
set_option linter.all false
set_option linter.unusedSimpArgs false
set_option linter.unusedVariables false
set_option linter.unusedSectionVars false
namespace Go.AM.SD
open Go Go.AM Go.Proofs Go.RowKit
namespace F37
def cons : List (Nat × Con) := []
def exts : List (Nat × Ext) := []
def h : List (Nat × Nat × Hint) := []
noncomputable def e (M : Nat) : Env := env cons exts h M
noncomputable def t37_0 (_ : Nat) : List Ent := []
theorem t37_0_ok (M : Nat) : AllOk (e M) (tblOf (t37_0 M)) := AllOk.nil
def s (M : Nat) (p0 : Int) : Option D :=
  (some (da [(di p0), (di 0), (dS (bs [])), (da [(di 0), (dS (bs [])), (dS (bs [])), (db false), (di 0), (dl false [])]), (dl false [])]))
theorem run (M : Nat) (p0 : Int) : callS (e M) (tblOf (t37_0 M)) 12 (.fn 37) [.d (.int .i64) (di p0)] [] (fun v H => finish ty [56] v H) = s M p0 := by kernel_rfl
noncomputable abbrev t (M : Nat) : List Ent := t37_0 M
theorem t_ok (M : Nat) : AllOk (e M) (tblOf (t M)) := t37_0_ok M
def c : Con := { run := fun ds => match ds with | [p0] => s FUEL p0.i | _ => none, fresh := false, plain := false }
theorem fun_at : Tryd.prog.funcs[37]? = some Tryd.f37 := by kernel_rfl
theorem params : Tryd.f37.params.toList.map ty = [(.int .i64)] := by kernel_rfl
theorem results : Tryd.f37.resultTypes.toList = [56] := by kernel_rfl
theorem ok : ConOk (37, c) := by
  intro fn hfn
  obtain rfl : Tryd.f37 = fn := Option.some.inj (fun_at.symm.trans hfn)
  refine contract_flat (n := 20) hgl (fun h => by simp at h) (fun ds r hh0 hr => ?_)
  rw [params] at hh0
  obtain ⟨p0, ds0, rfl, h0, hh1⟩ := hass_cons hh0
  obtain ⟨p0, rfl⟩ := has_int h0
  obtain rfl := hass_nil hh1
  refine ⟨e FUEL, DEPTH, tblOf (t FUEL), envOk allNil allNil, rfl, t_ok FUEL, ?_⟩
  rw [params, results]
  exact (run FUEL p0).trans hr
end F37
namespace F21
def cons : List (Nat × Con) := []
def exts : List (Nat × Ext) := []
def h : List (Nat × Nat × Hint) := [(38, 2, { live := [0, 1, 7, 8], rows := [], own := false, inpl := false })]
noncomputable def e (M : Nat) : Env := env cons exts h M
noncomputable def t21_0 (_ : Nat) : List Ent := []
theorem t21_0_ok (M : Nat) : AllOk (e M) (tblOf (t21_0 M)) := AllOk.nil
structure S38_2 where
  d1 : D
  i2 : Int
  i3 : Int
  d4 : D
  s5 : ByteArray
inductive X38_2 where
  | e0 (d1 : D) (i2 : Int) (i3 : Int) (d4 : D) (s5 : ByteArray)
  | e1 (d1 : D) (i2 : Int) (i3 : Int) (d4 : D) (s5 : ByteArray)
def st38_2 (M : Nat) : S38_2 → (S38_2 → Option D) → (X38_2 → Option D) → Option D
  | ⟨d1, i2, i3, d4, s5⟩, rec, K => (cond (ltI i3 i2) (cond (inb i3 d1.elems.length) (cond (eqS ((ix d1.elems i3.toNat).at 1).s s5) (K (.e0 d1 i2 i3 d4 s5)) (rec ⟨d1, i2, (ad .i64 i3 1), d4, s5⟩)) none) (K (.e1 d1 i2 i3 d4 s5)))
def lv38_2 : S38_2 → List Leaf
  | ⟨d1, i2, i3, d4, s5⟩ => [.d d1, .i i2, .i i3, .d d4, .s s5]
def of38_2 : List Leaf → Option S38_2
  | [.d d1, .i i2, .i i3, .d d4, .s s5] => some ⟨d1, i2, i3, d4, s5⟩
  | _ => none
def ex38_2 (k : Kont) : X38_2 → Option D
  | .e0 d1 i2 i3 d4 s5 => k .ret ((.d (.slice 42) d1) :: ((.func (.func 39) [] [(.ptr 1 [] .str)]) :: (us 2 ((.d (.int .i64) (di i3)) :: ((.d (.int .i64) (di i3)) :: (us 1 ((.d (.int .i64) (di i2)) :: ((.d (.int .i64) (di i3)) :: ((.d .bool (db (ltI i3 i2))) :: ((.d (.int .i64) (di i3)) :: ((.func (.func 39) [] [(.ptr 1 [] .str)]) :: ((.d (.slice 42) d1) :: ((.d (.int .i64) (di i3)) :: ((.cptr (.struct [3, 9, 9, 4, 3, 40]) (ix d1.elems i3.toNat)) :: ((.d (.struct [3, 9, 9, 4, 3, 40]) (ix d1.elems i3.toNat)) :: ((.d .bool (db (eqS ((ix d1.elems i3.toNat).at 1).s s5))) :: ((.d (.int .i64) (di i3)) :: (us 1 [])))))))))))))))))) [(.var (.struct [49, 3, 3]) (.d (.struct [49, 3, 3]) d4)), (.var .str (.d .str (dS s5))), (.var (.struct [3, 9, 9, 4, 3, 40]) (.d (.struct [3, 9, 9, 4, 3, 40]) (ix d1.elems i3.toNat)))]
  | .e1 d1 i2 i3 d4 s5 => k (.exit 0) ((.d (.slice 42) d1) :: ((.func (.func 39) [] [(.ptr 1 [] .str)]) :: (us 5 ((.d (.int .i64) (di i2)) :: ((.d (.int .i64) (di i3)) :: ((.d .bool (db (ltI i3 i2))) :: (us 9 []))))))) [(.var (.struct [49, 3, 3]) (.d (.struct [49, 3, 3]) d4)), (.var .str (.d .str (dS s5)))]
def ps38_2 : List PV := ((.d (.slice 42) .x) :: ((.func 39 [] [(.ptr 1 [] .str)]) :: (up 5 ((.d (.int .i64) (.int .i64)) :: ((.d (.int .i64) (.int .i64)) :: (up 10 []))))))
def qs38_2 : List PO := [(.var (.struct [49, 3, 3]) (.d (.struct [49, 3, 3]) .x)), (.var .str (.d .str .str))]
noncomputable def sum38_2 (M : Nat) : Sum := sumS [0, 1, 7, 8] ps38_2 qs38_2 [] of38_2 (st38_2 M) ex38_2 M
theorem sok38_2 (M : Nat) : SumOk (loopRd (e M) 38 2) (e M) (call (e M) 10) 38 2 (loopAt (e M) 38 2) (sum38_2 M) :=
  sumOk_st (T := tblOf (t21_0 M)) (n0 := 2) (lv := lv38_2) (t21_0_ok M) (by kernel_rfl) rfl (by intro ls s h; unfold of38_2 at h; (repeat' split at h) <;> simp at h; subst h; rfl) (by intro s; kernel_rfl) (by intro s; kernel_rfl) (by intro s nx k; kernel_rfl)
noncomputable def t21_1 (M : Nat) : List Ent := ⟨38, 10, 2, 2, sum38_2 M⟩ :: t21_0 M
theorem t21_1_ok (M : Nat) : AllOk (e M) (tblOf (t21_1 M)) := (t21_0_ok M).add ⟨38, 10, 2, 2, sum38_2 M⟩ (by kernel_rfl) (sok38_2 M)
def s (M : Nat) (p0 : D) (p1 : ByteArray) : Option D :=
  (goS (st38_2 M) M ⟨(p0.at 0), (nI (p0.at 0).elems.length), 0, p0, p1⟩ fun x => match x with | .e0 d1 i2 i3 d4 s5 => (some (di i3)) | .e1 d1 i2 i3 d4 s5 => (some (di (-1))))
theorem run (M : Nat) (p0 : D) (p1 : ByteArray) : callS (e M) (tblOf (t21_1 M)) 12 (.fn 21) [.d (.struct [49, 3, 3]) p0, .d .str (dS p1)] [] (fun v H => finish ty [3] v H) = s M p0 p1 := by kernel_rfl
noncomputable abbrev t (M : Nat) : List Ent := t21_1 M
theorem t_ok (M : Nat) : AllOk (e M) (tblOf (t M)) := t21_1_ok M
def c : Con := { run := fun ds => match ds with | [p0, p1] => s FUEL p0 p1.s | _ => none, fresh := false, plain := true }
theorem fun_at : Tryd.prog.funcs[21]? = some Tryd.f21 := by kernel_rfl
theorem params : Tryd.f21.params.toList.map ty = [(.struct [49, 3, 3]), .str] := by kernel_rfl
theorem results : Tryd.f21.resultTypes.toList = [3] := by kernel_rfl
theorem flat : Tryd.f21.resultTypes.toList.all (fun t => K.flat ty 20 (ty t)) = true := by kernel_rfl
theorem ok : ConOk (21, c) := by
  intro fn hfn
  obtain rfl : Tryd.f21 = fn := Option.some.inj (fun_at.symm.trans hfn)
  refine contract_flat (n := 20) hgl (fun _ => flat) (fun ds r hh0 hr => ?_)
  rw [params] at hh0
  obtain ⟨p0, ds0, rfl, h0, hh1⟩ := hass_cons hh0
  obtain ⟨p1, ds1, rfl, h1, hh2⟩ := hass_cons hh1
  obtain ⟨p1, rfl⟩ := has_str h1
  obtain rfl := hass_nil hh2
  refine ⟨e FUEL, DEPTH, tblOf (t FUEL), envOk allNil allNil, rfl, t_ok FUEL, ?_⟩
  rw [params, results]
  exact (run FUEL p0 p1).trans hr
end F21
namespace F76
def cons : List (Nat × Con) := []
def exts : List (Nat × Ext) := []
def h : List (Nat × Nat × Hint) := []
noncomputable def e (M : Nat) : Env := env cons exts h M
noncomputable def t76_0 (_ : Nat) : List Ent := []
theorem t76_0_ok (M : Nat) : AllOk (e M) (tblOf (t76_0 M)) := AllOk.nil
def s (M : Nat) (p0 : Int) : Option D :=
  (cond (geI p0 1) (some (db (leI p0 1099511627776))) (some (db false)))
theorem run (M : Nat) (p0 : Int) : callS (e M) (tblOf (t76_0 M)) 12 (.fn 76) [.d (.int .i64) (di p0)] [] (fun v H => finish ty [4] v H) = s M p0 := by kernel_rfl
noncomputable abbrev t (M : Nat) : List Ent := t76_0 M
theorem t_ok (M : Nat) : AllOk (e M) (tblOf (t M)) := t76_0_ok M
def c : Con := { run := fun ds => match ds with | [p0] => s FUEL p0.i | _ => none, fresh := false, plain := true }
theorem fun_at : Tryd.prog.funcs[76]? = some Tryd.f76 := by kernel_rfl
theorem params : Tryd.f76.params.toList.map ty = [(.int .i64)] := by kernel_rfl
theorem results : Tryd.f76.resultTypes.toList = [4] := by kernel_rfl
theorem flat : Tryd.f76.resultTypes.toList.all (fun t => K.flat ty 20 (ty t)) = true := by kernel_rfl
theorem ok : ConOk (76, c) := by
  intro fn hfn
  obtain rfl : Tryd.f76 = fn := Option.some.inj (fun_at.symm.trans hfn)
  refine contract_flat (n := 20) hgl (fun _ => flat) (fun ds r hh0 hr => ?_)
  rw [params] at hh0
  obtain ⟨p0, ds0, rfl, h0, hh1⟩ := hass_cons hh0
  obtain ⟨p0, rfl⟩ := has_int h0
  obtain rfl := hass_nil hh1
  refine ⟨e FUEL, DEPTH, tblOf (t FUEL), envOk allNil allNil, rfl, t_ok FUEL, ?_⟩
  rw [params, results]
  exact (run FUEL p0).trans hr
end F76
namespace F91
def cons : List (Nat × Con) := [(49, F49.c), (76, F76.c)]
def exts : List (Nat × Ext) := []
def h : List (Nat × Nat × Hint) := []
noncomputable def e (M : Nat) : Env := env cons exts h M
noncomputable def t91_0 (_ : Nat) : List Ent := []
theorem t91_0_ok (M : Nat) : AllOk (e M) (tblOf (t91_0 M)) := AllOk.nil
def s (M : Nat) (p0 : Int) (p1 : ByteArray) : Option D :=
  (bd (F49.s FUEL p1) fun r1 => (cond (!r1.b) (some (D.tup [(da [(di 0), (dS (bs [])), (dS (bs [])), (db false), (di 0), (dl false [])]), (di 2)])) (bd (F76.s FUEL p0) fun r2 => (cond (!r2.b) (some (D.tup [(da [(di 0), (dS (bs [])), (dS (bs [])), (db false), (di 0), (dl false [])]), (di 1)])) (some (D.tup [(da [(di p0), (dS p1), (dS (bs [])), (db false), (di 0), (dl false [])]), (di 0)]))))))
theorem run (M : Nat) (p0 : Int) (p1 : ByteArray) : callS (e M) (tblOf (t91_0 M)) 12 (.fn 91) [.d (.int .i64) (di p0), .d .str (dS p1)] [] (fun v H => finish ty [42, 28] v H) = s M p0 p1 := by kernel_rfl
noncomputable abbrev t (M : Nat) : List Ent := t91_0 M
theorem t_ok (M : Nat) : AllOk (e M) (tblOf (t M)) := t91_0_ok M
def c : Con := { run := fun ds => match ds with | [p0, p1] => s FUEL p0.i p1.s | _ => none, fresh := false, plain := false }
theorem fun_at : Tryd.prog.funcs[91]? = some Tryd.f91 := by kernel_rfl
theorem params : Tryd.f91.params.toList.map ty = [(.int .i64), .str] := by kernel_rfl
theorem results : Tryd.f91.resultTypes.toList = [42, 28] := by kernel_rfl
theorem ok : ConOk (91, c) := by
  intro fn hfn
  obtain rfl : Tryd.f91 = fn := Option.some.inj (fun_at.symm.trans hfn)
  refine contract_flat (n := 20) hgl (fun h => by simp at h) (fun ds r hh0 hr => ?_)
  rw [params] at hh0
  obtain ⟨p0, ds0, rfl, h0, hh1⟩ := hass_cons hh0
  obtain ⟨p0, rfl⟩ := has_int h0
  obtain ⟨p1, ds1, rfl, h1, hh2⟩ := hass_cons hh1
  obtain ⟨p1, rfl⟩ := has_str h1
  obtain rfl := hass_nil hh2
  refine ⟨e FUEL, DEPTH, tblOf (t FUEL), envOk (allCons F49.ok (allCons F76.ok allNil)) allNil, rfl, t_ok FUEL, ?_⟩
  rw [params, results]
  exact (run FUEL p0 p1).trans hr
end F91
namespace F92
def cons : List (Nat × Con) := []
def exts : List (Nat × Ext) := []
def h : List (Nat × Nat × Hint) := []
noncomputable def e (M : Nat) : Env := env cons exts h M
noncomputable def t92_0 (_ : Nat) : List Ent := []
theorem t92_0_ok (M : Nat) : AllOk (e M) (tblOf (t92_0 M)) := AllOk.nil
def s (M : Nat) (p0 : D) : Option D :=
  (cond (!p0.nn) (some (.slice false [])) (cond (mx p0.elems.length) (cond ((decide (p0.elems.length = p0.elems.length)) && true) (some (.slice true p0.elems)) none) none))
theorem run (M : Nat) (p0 : D) : callS (e M) (tblOf (t92_0 M)) 12 (.fn 92) [.d (.slice 42) p0] [] (fun v H => finishFresh ty [49] v H) = s M p0 := by kernel_rfl
noncomputable abbrev t (M : Nat) : List Ent := t92_0 M
theorem t_ok (M : Nat) : AllOk (e M) (tblOf (t M)) := t92_0_ok M
def c : Con := { run := fun ds => match ds with | [p0] => s FUEL p0 | _ => none, fresh := true, plain := false }
theorem fun_at : Tryd.prog.funcs[92]? = some Tryd.f92 := by kernel_rfl
theorem params : Tryd.f92.params.toList.map ty = [(.slice 42)] := by kernel_rfl
theorem results : Tryd.f92.resultTypes.toList = [49] := by kernel_rfl
theorem ok : ConOk (92, c) := by
  intro fn hfn
  obtain rfl : Tryd.f92 = fn := Option.some.inj (fun_at.symm.trans hfn)
  refine contract_of_fresh hgl rfl rfl (fun ds r hh0 hr => ?_)
  rw [params] at hh0
  obtain ⟨p0, ds0, rfl, h0, hh1⟩ := hass_cons hh0
  obtain rfl := hass_nil hh1
  refine ⟨e FUEL, DEPTH, tblOf (t FUEL), envOk allNil allNil, rfl, t_ok FUEL, ?_⟩
  rw [params, results]
  exact (run FUEL p0).trans hr
end F92
namespace F111
def cons : List (Nat × Con) := []
def exts : List (Nat × Ext) := []
def h : List (Nat × Nat × Hint) := []
noncomputable def e (M : Nat) : Env := env cons exts h M
noncomputable def t111_0 (_ : Nat) : List Ent := []
theorem t111_0_ok (M : Nat) : AllOk (e M) (tblOf (t111_0 M)) := AllOk.nil
def s (M : Nat) (p0 : D) (p1 : ByteArray) : Option D :=
  (cond (p0.at 3).b (some (D.tup [p0, (di 5)])) (cond (eqS p1 (bs [])) (some (D.tup [p0, (di 1)])) (cond (gtI (ad .i64 (nI (p0.at 2).s.size) (nI p1.size)) 600) (some (D.tup [p0, (di 10)])) (bd (cat (p0.at 2).s p1) fun r1 => (some (D.tup [(D.agg (p0.parts.set 2 r1)), (di 0)]))))))
theorem run (M : Nat) (p0 : D) (p1 : ByteArray) : callS (e M) (tblOf (t111_0 M)) 12 (.fn 111) [.d (.struct [3, 9, 9, 4, 3, 40]) p0, .d .str (dS p1)] [] (fun v H => finish ty [42, 28] v H) = s M p0 p1 := by kernel_rfl
noncomputable abbrev t (M : Nat) : List Ent := t111_0 M
theorem t_ok (M : Nat) : AllOk (e M) (tblOf (t M)) := t111_0_ok M
def c : Con := { run := fun ds => match ds with | [p0, p1] => s FUEL p0 p1.s | _ => none, fresh := false, plain := false }
theorem fun_at : Tryd.prog.funcs[111]? = some Tryd.f111 := by kernel_rfl
theorem params : Tryd.f111.params.toList.map ty = [(.struct [3, 9, 9, 4, 3, 40]), .str] := by kernel_rfl
theorem results : Tryd.f111.resultTypes.toList = [42, 28] := by kernel_rfl
theorem ok : ConOk (111, c) := by
  intro fn hfn
  obtain rfl : Tryd.f111 = fn := Option.some.inj (fun_at.symm.trans hfn)
  refine contract_flat (n := 20) hgl (fun h => by simp at h) (fun ds r hh0 hr => ?_)
  rw [params] at hh0
  obtain ⟨p0, ds0, rfl, h0, hh1⟩ := hass_cons hh0
  obtain ⟨p1, ds1, rfl, h1, hh2⟩ := hass_cons hh1
  obtain ⟨p1, rfl⟩ := has_str h1
  obtain rfl := hass_nil hh2
  refine ⟨e FUEL, DEPTH, tblOf (t FUEL), envOk allNil allNil, rfl, t_ok FUEL, ?_⟩
  rw [params, results]
  exact (run FUEL p0 p1).trans hr
end F111
namespace F106
def cons : List (Nat × Con) := []
def exts : List (Nat × Ext) := []
def h : List (Nat × Nat × Hint) := []
noncomputable def e (M : Nat) : Env := env cons exts h M
noncomputable def t106_0 (_ : Nat) : List Ent := []
theorem t106_0_ok (M : Nat) : AllOk (e M) (tblOf (t106_0 M)) := AllOk.nil
def s (M : Nat)  : Option D :=
  (some (dl true [(D.tup [(di 1), (D.iface 153 (D.fn 111))]), (D.tup [(di 4), (D.iface 153 (D.fn 63))]), (D.tup [(di 5), (D.iface 153 (D.fn 65))]), (D.tup [(di 2), (D.iface 155 (D.fn 58))]), (D.tup [(di 3), (D.iface 155 (D.fn 61))]), (D.tup [(di 6), (D.iface 152 (D.fn 44))])]))
theorem run (M : Nat)  : callS (e M) (tblOf (t106_0 M)) 12 (.fn 106) [] [] (fun v H => finishFresh ty [150] v H) = s M  := by kernel_rfl
noncomputable abbrev t (M : Nat) : List Ent := t106_0 M
theorem t_ok (M : Nat) : AllOk (e M) (tblOf (t M)) := t106_0_ok M
def c : Con := { run := fun ds => match ds with | [] => s FUEL  | _ => none, fresh := true, plain := false }
theorem fun_at : Tryd.prog.funcs[106]? = some Tryd.f106 := by kernel_rfl
theorem params : Tryd.f106.params.toList.map ty = [] := by kernel_rfl
theorem results : Tryd.f106.resultTypes.toList = [150] := by kernel_rfl
theorem ok : ConOk (106, c) := by
  intro fn hfn
  obtain rfl : Tryd.f106 = fn := Option.some.inj (fun_at.symm.trans hfn)
  refine contract_of_fresh hgl rfl rfl (fun ds r hh0 hr => ?_)
  rw [params] at hh0
  obtain rfl := hass_nil hh0
  refine ⟨e FUEL, DEPTH, tblOf (t FUEL), envOk allNil allNil, rfl, t_ok FUEL, ?_⟩
  rw [params, results]
  exact (run FUEL ).trans hr
end F106
namespace F122
def cons : List (Nat × Con) := []
def exts : List (Nat × Ext) := []
def h : List (Nat × Nat × Hint) := [(122, 2, { live := [0, 3], rows := [], own := false, inpl := false })]
noncomputable def e (M : Nat) : Env := env cons exts h M
noncomputable def t122_0 (_ : Nat) : List Ent := []
theorem t122_0_ok (M : Nat) : AllOk (e M) (tblOf (t122_0 M)) := AllOk.nil
structure S2 where
  i1 : Int
  i2 : Int
inductive X2 where
  | e0 (i1 : Int) (i2 : Int) (r3 : D)
  | e1 (i1 : Int) (i2 : Int)
def st2 (M : Nat) : S2 → (S2 → Option D) → (X2 → Option D) → Option D
  | ⟨i1, i2⟩, rec, K => (cond (leI (ml .i64 i2 i2) i1) (bd (if i2 = 0 then none else some (.int .i64 (remI i1 i2))) fun r3 => (cond (eqI r3.i 0) (K (.e0 i1 i2 r3)) (rec ⟨i1, (ad .i64 i2 1)⟩))) (K (.e1 i1 i2)))
def lv2 : S2 → List Leaf
  | ⟨i1, i2⟩ => [.i i1, .i i2]
def of2 : List Leaf → Option S2
  | [.i i1, .i i2] => some ⟨i1, i2⟩
  | _ => none
def ex2 (k : Kont) : X2 → Option D
  | .e0 i1 i2 r3 => k .ret ((.d (.int .i64) (di i1)) :: (us 1 ((.d .bool (db false)) :: ((.d (.int .i64) (di i2)) :: ((.d (.int .i64) (di i2)) :: ((.d (.int .i64) (di i2)) :: ((.d (.int .i64) (di (ml .i64 i2 i2))) :: ((.d (.int .i64) (di i1)) :: ((.d .bool (db (leI (ml .i64 i2 i2) i1))) :: (us 2 ((.d (.int .i64) (di i1)) :: ((.d (.int .i64) (di i2)) :: ((.d (.int .i64) r3) :: ((.d .bool (db (eqI r3.i 0))) :: (us 2 []))))))))))))))) []
  | .e1 i1 i2 => k (.exit 0) ((.d (.int .i64) (di i1)) :: (us 2 ((.d (.int .i64) (di i2)) :: ((.d (.int .i64) (di i2)) :: ((.d (.int .i64) (di i2)) :: ((.d (.int .i64) (di (ml .i64 i2 i2))) :: ((.d (.int .i64) (di i1)) :: ((.d .bool (db (leI (ml .i64 i2 i2) i1))) :: (us 8 []))))))))) []
def ps2 : List PV := ((.d (.int .i64) (.int .i64)) :: (up 2 ((.d (.int .i64) (.int .i64)) :: (up 13 []))))
def qs2 : List PO := []
noncomputable def sum2 (M : Nat) : Sum := sumS [0, 3] ps2 qs2 [] of2 (st2 M) ex2 M
theorem sok2 (M : Nat) : SumOk (loopRd (e M) 122 2) (e M) (call (e M) 11) 122 0 (loopAt (e M) 122 2) (sum2 M) :=
  sumOk_st (T := tblOf (t122_0 M)) (n0 := 0) (lv := lv2) (t122_0_ok M) (by kernel_rfl) rfl (by intro ls s h; unfold of2 at h; (repeat' split at h) <;> simp at h; subst h; rfl) (by intro s; kernel_rfl) (by intro s; kernel_rfl) (by intro s nx k; kernel_rfl)
noncomputable def t122_1 (M : Nat) : List Ent := ⟨122, 11, 0, 2, sum2 M⟩ :: t122_0 M
theorem t122_1_ok (M : Nat) : AllOk (e M) (tblOf (t122_1 M)) := (t122_0_ok M).add ⟨122, 11, 0, 2, sum2 M⟩ (by kernel_rfl) (sok2 M)
def s (M : Nat) (p0 : Int) : Option D :=
  (goS (st2 M) M ⟨p0, 2⟩ fun x => match x with | .e0 i1 i2 r3 => (some (db false)) | .e1 i1 i2 => (some (db (gtI i1 1))))
theorem run (M : Nat) (p0 : Int) : callS (e M) (tblOf (t122_1 M)) 12 (.fn 122) [.d (.int .i64) (di p0)] [] (fun v H => finish ty [4] v H) = s M p0 := by kernel_rfl
noncomputable abbrev t (M : Nat) : List Ent := t122_1 M
theorem t_ok (M : Nat) : AllOk (e M) (tblOf (t M)) := t122_1_ok M
def c : Con := { run := fun ds => match ds with | [p0] => s FUEL p0.i | _ => none, fresh := false, plain := true }
theorem fun_at : Tryd.prog.funcs[122]? = some Tryd.f122 := by kernel_rfl
theorem params : Tryd.f122.params.toList.map ty = [(.int .i64)] := by kernel_rfl
theorem results : Tryd.f122.resultTypes.toList = [4] := by kernel_rfl
theorem flat : Tryd.f122.resultTypes.toList.all (fun t => K.flat ty 20 (ty t)) = true := by kernel_rfl
theorem ok : ConOk (122, c) := by
  intro fn hfn
  obtain rfl : Tryd.f122 = fn := Option.some.inj (fun_at.symm.trans hfn)
  refine contract_flat (n := 20) hgl (fun _ => flat) (fun ds r hh0 hr => ?_)
  rw [params] at hh0
  obtain ⟨p0, ds0, rfl, h0, hh1⟩ := hass_cons hh0
  obtain ⟨p0, rfl⟩ := has_int h0
  obtain rfl := hass_nil hh1
  refine ⟨e FUEL, DEPTH, tblOf (t FUEL), envOk allNil allNil, rfl, t_ok FUEL, ?_⟩
  rw [params, results]
  exact (run FUEL p0).trans hr
end F122
namespace F129
def cons : List (Nat × Con) := []
def exts : List (Nat × Ext) := []
def h : List (Nat × Nat × Hint) := []
noncomputable def e (M : Nat) : Env := env cons exts h M
noncomputable def t129_0 (_ : Nat) : List Ent := []
theorem t129_0_ok (M : Nat) : AllOk (e M) (tblOf (t129_0 M)) := AllOk.nil
def s (M : Nat) (p0 : Int) (p1 : Int) : Option D :=
  (some (D.tup [(D.int .u64 (ad .u64 (ad .u64 (ml .u64 (shrI .u64 p0 32) (shrI .u64 p1 32)) (shrI .u64 (ad .u64 (ml .u64 (shrI .u64 p0 32) (andI .u64 p1 4294967295)) (shrI .u64 (ml .u64 (andI .u64 p0 4294967295) (andI .u64 p1 4294967295)) 32)) 32)) (shrI .u64 (ad .u64 (andI .u64 (ad .u64 (ml .u64 (shrI .u64 p0 32) (andI .u64 p1 4294967295)) (shrI .u64 (ml .u64 (andI .u64 p0 4294967295) (andI .u64 p1 4294967295)) 32)) 4294967295) (ml .u64 (andI .u64 p0 4294967295) (shrI .u64 p1 32))) 32))), (D.int .u64 (ml .u64 p0 p1))]))
theorem run (M : Nat) (p0 : Int) (p1 : Int) : callS (e M) (tblOf (t129_0 M)) 12 (.fn 129) [.d (.int .u64) (D.int .u64 p0), .d (.int .u64) (D.int .u64 p1)] [] (fun v H => finish ty [174, 174] v H) = s M p0 p1 := by kernel_rfl
noncomputable abbrev t (M : Nat) : List Ent := t129_0 M
theorem t_ok (M : Nat) : AllOk (e M) (tblOf (t M)) := t129_0_ok M
def c : Con := { run := fun ds => match ds with | [p0, p1] => s FUEL p0.i p1.i | _ => none, fresh := false, plain := true }
theorem fun_at : Tryd.prog.funcs[129]? = some Tryd.f129 := by kernel_rfl
theorem params : Tryd.f129.params.toList.map ty = [(.int .u64), (.int .u64)] := by kernel_rfl
theorem results : Tryd.f129.resultTypes.toList = [174, 174] := by kernel_rfl
theorem flat : Tryd.f129.resultTypes.toList.all (fun t => K.flat ty 20 (ty t)) = true := by kernel_rfl
theorem ok : ConOk (129, c) := by
  intro fn hfn
  obtain rfl : Tryd.f129 = fn := Option.some.inj (fun_at.symm.trans hfn)
  refine contract_flat (n := 20) hgl (fun _ => flat) (fun ds r hh0 hr => ?_)
  rw [params] at hh0
  obtain ⟨p0, ds0, rfl, h0, hh1⟩ := hass_cons hh0
  obtain ⟨p0, rfl⟩ := has_int h0
  obtain ⟨p1, ds1, rfl, h1, hh2⟩ := hass_cons hh1
  obtain ⟨p1, rfl⟩ := has_int h1
  obtain rfl := hass_nil hh2
  refine ⟨e FUEL, DEPTH, tblOf (t FUEL), envOk allNil allNil, rfl, t_ok FUEL, ?_⟩
  rw [params, results]
  exact (run FUEL p0 p1).trans hr
end F129
namespace F127
def cons : List (Nat × Con) := [(129, F129.c)]
def exts : List (Nat × Ext) := []
def h : List (Nat × Nat × Hint) := []
noncomputable def e (M : Nat) : Env := env cons exts h M
noncomputable def t127_0 (_ : Nat) : List Ent := []
theorem t127_0_ok (M : Nat) : AllOk (e M) (tblOf (t127_0 M)) := AllOk.nil
def s (M : Nat) (p0 : Int) (p1 : Int) (p2 : Int) : Option D :=
  (bd (F129.s FUEL p0 p0) fun r1 => (cond (eqI p2 2) (cond (ltI (r1.at 0).i p1) (some (db true)) (cond (eqI (r1.at 0).i p1) (some (db (eqI (r1.at 1).i 0))) (some (db false)))) (bd (F129.s FUEL (r1.at 1).i p0) fun r2 => (bd (F129.s FUEL (r1.at 0).i p0) fun r3 => (cond (Nat.ble 0 1) (cond (ltI (orI .u64 (shlI .u64 (ad .u64 (r3.at 0).i ((((r2.at 0).i.toNat + (r3.at 1).i.toNat + 0) / 18446744073709551616 : Nat) : Int)) 32) (shrI .u64 ((((r2.at 0).i.toNat + (r3.at 1).i.toNat + 0) % 18446744073709551616 : Nat) : Int) 32)) p1) (some (db true)) (cond (eqI (orI .u64 (shlI .u64 (ad .u64 (r3.at 0).i ((((r2.at 0).i.toNat + (r3.at 1).i.toNat + 0) / 18446744073709551616 : Nat) : Int)) 32) (shrI .u64 ((((r2.at 0).i.toNat + (r3.at 1).i.toNat + 0) % 18446744073709551616 : Nat) : Int) 32)) p1) (cond (eqI (cv .u32 ((((r2.at 0).i.toNat + (r3.at 1).i.toNat + 0) % 18446744073709551616 : Nat) : Int)) 0) (some (db (eqI (r2.at 1).i 0))) (some (db false))) (some (db false)))) none)))))
theorem run (M : Nat) (p0 : Int) (p1 : Int) (p2 : Int) : callS (e M) (tblOf (t127_0 M)) 12 (.fn 127) [.d (.int .u64) (D.int .u64 p0), .d (.int .u64) (D.int .u64 p1), .d (.int .i64) (di p2)] [] (fun v H => finish ty [4] v H) = s M p0 p1 p2 := by kernel_rfl
noncomputable abbrev t (M : Nat) : List Ent := t127_0 M
theorem t_ok (M : Nat) : AllOk (e M) (tblOf (t M)) := t127_0_ok M
def c : Con := { run := fun ds => match ds with | [p0, p1, p2] => s FUEL p0.i p1.i p2.i | _ => none, fresh := false, plain := true }
theorem fun_at : Tryd.prog.funcs[127]? = some Tryd.f127 := by kernel_rfl
theorem params : Tryd.f127.params.toList.map ty = [(.int .u64), (.int .u64), (.int .i64)] := by kernel_rfl
theorem results : Tryd.f127.resultTypes.toList = [4] := by kernel_rfl
theorem flat : Tryd.f127.resultTypes.toList.all (fun t => K.flat ty 20 (ty t)) = true := by kernel_rfl
theorem ok : ConOk (127, c) := by
  intro fn hfn
  obtain rfl : Tryd.f127 = fn := Option.some.inj (fun_at.symm.trans hfn)
  refine contract_flat (n := 20) hgl (fun _ => flat) (fun ds r hh0 hr => ?_)
  rw [params] at hh0
  obtain ⟨p0, ds0, rfl, h0, hh1⟩ := hass_cons hh0
  obtain ⟨p0, rfl⟩ := has_int h0
  obtain ⟨p1, ds1, rfl, h1, hh2⟩ := hass_cons hh1
  obtain ⟨p1, rfl⟩ := has_int h1
  obtain ⟨p2, ds2, rfl, h2, hh3⟩ := hass_cons hh2
  obtain ⟨p2, rfl⟩ := has_int h2
  obtain rfl := hass_nil hh3
  refine ⟨e FUEL, DEPTH, tblOf (t FUEL), envOk (allCons F129.ok allNil) allNil, rfl, t_ok FUEL, ?_⟩
  rw [params, results]
  exact (run FUEL p0 p1 p2).trans hr
end F127
namespace F123
def cons : List (Nat × Con) := [(127, F127.c)]
def exts : List (Nat × Ext) := []
def h : List (Nat × Nat × Hint) := [(123, 3, { live := [0, 1, 5, 6], rows := [], own := false, inpl := false })]
noncomputable def e (M : Nat) : Env := env cons exts h M
noncomputable def t123_0 (_ : Nat) : List Ent := []
theorem t123_0_ok (M : Nat) : AllOk (e M) (tblOf (t123_0 M)) := AllOk.nil
structure S3 where
  i1 : Int
  i2 : Int
  i3 : Int
  i4 : Int
inductive X3 where
  | e0 (i1 : Int) (i2 : Int) (i3 : Int) (i4 : Int)
def st3 (M : Nat) : S3 → (S3 → Option D) → (X3 → Option D) → Option D
  | ⟨i1, i2, i3, i4⟩, rec, K => (cond (gtI i4 0) (bd (F127.s FUEL (orI .u64 i3 i4) i1 i2) fun r5 => (cond r5.b (rec ⟨i1, i2, (orI .u64 i3 i4), (shrI .u64 i4 1)⟩) (rec ⟨i1, i2, i3, (shrI .u64 i4 1)⟩))) (K (.e0 i1 i2 i3 i4)))
def lv3 : S3 → List Leaf
  | ⟨i1, i2, i3, i4⟩ => [.i i1, .i i2, .i i3, .i i4]
def of3 : List Leaf → Option S3
  | [.i i1, .i i2, .i i3, .i i4] => some ⟨i1, i2, i3, i4⟩
  | _ => none
def ex3 (k : Kont) : X3 → Option D
  | .e0 i1 i2 i3 i4 => k (.exit 0) ((.d (.int .u64) (D.int .u64 i1)) :: ((.d (.int .i64) (di i2)) :: (us 3 ((.d (.int .u64) (D.int .u64 i3)) :: ((.d (.int .u64) (D.int .u64 i4)) :: ((.d (.int .u64) (D.int .u64 i4)) :: ((.d .bool (db (gtI i4 0))) :: (us 13 [])))))))) []
def ps3 : List PV := ((.d (.int .u64) (.int .u64)) :: ((.d (.int .i64) (.int .i64)) :: (up 3 ((.d (.int .u64) (.int .u64)) :: ((.d (.int .u64) (.int .u64)) :: (up 15 []))))))
def qs3 : List PO := []
noncomputable def sum3 (M : Nat) : Sum := sumS [0, 1, 5, 6] ps3 qs3 [] of3 (st3 M) ex3 M
theorem sok3 (M : Nat) : SumOk (loopRd (e M) 123 3) (e M) (call (e M) 11) 123 0 (loopAt (e M) 123 3) (sum3 M) :=
  sumOk_st (T := tblOf (t123_0 M)) (n0 := 0) (lv := lv3) (t123_0_ok M) (by kernel_rfl) rfl (by intro ls s h; unfold of3 at h; (repeat' split at h) <;> simp at h; subst h; rfl) (by intro s; kernel_rfl) (by intro s; kernel_rfl) (by intro s nx k; kernel_rfl)
noncomputable def t123_1 (M : Nat) : List Ent := ⟨123, 11, 0, 3, sum3 M⟩ :: t123_0 M
theorem t123_1_ok (M : Nat) : AllOk (e M) (tblOf (t123_1 M)) := (t123_0_ok M).add ⟨123, 11, 0, 3, sum3 M⟩ (by kernel_rfl) (sok3 M)
def s (M : Nat) (p0 : Int) (p1 : Int) : Option D :=
  (goS (st3 M) M ⟨p0, p1, 0, 137438953472⟩ fun x => match x with | .e0 i1 i2 i3 i4 => (some (D.int .u32 (cv .u32 i3))))
theorem run (M : Nat) (p0 : Int) (p1 : Int) : callS (e M) (tblOf (t123_1 M)) 12 (.fn 123) [.d (.int .u64) (D.int .u64 p0), .d (.int .i64) (di p1)] [] (fun v H => finish ty [165] v H) = s M p0 p1 := by kernel_rfl
noncomputable abbrev t (M : Nat) : List Ent := t123_1 M
theorem t_ok (M : Nat) : AllOk (e M) (tblOf (t M)) := t123_1_ok M
def c : Con := { run := fun ds => match ds with | [p0, p1] => s FUEL p0.i p1.i | _ => none, fresh := false, plain := true }
theorem fun_at : Tryd.prog.funcs[123]? = some Tryd.f123 := by kernel_rfl
theorem params : Tryd.f123.params.toList.map ty = [(.int .u64), (.int .i64)] := by kernel_rfl
theorem results : Tryd.f123.resultTypes.toList = [165] := by kernel_rfl
theorem flat : Tryd.f123.resultTypes.toList.all (fun t => K.flat ty 20 (ty t)) = true := by kernel_rfl
theorem ok : ConOk (123, c) := by
  intro fn hfn
  obtain rfl : Tryd.f123 = fn := Option.some.inj (fun_at.symm.trans hfn)
  refine contract_flat (n := 20) hgl (fun _ => flat) (fun ds r hh0 hr => ?_)
  rw [params] at hh0
  obtain ⟨p0, ds0, rfl, h0, hh1⟩ := hass_cons hh0
  obtain ⟨p0, rfl⟩ := has_int h0
  obtain ⟨p1, ds1, rfl, h1, hh2⟩ := hass_cons hh1
  obtain ⟨p1, rfl⟩ := has_int h1
  obtain rfl := hass_nil hh2
  refine ⟨e FUEL, DEPTH, tblOf (t FUEL), envOk (allCons F127.ok allNil) allNil, rfl, t_ok FUEL, ?_⟩
  rw [params, results]
  exact (run FUEL p0 p1).trans hr
end F123
namespace F117
def cons : List (Nat × Con) := [(122, F122.c), (123, F123.c)]
def exts : List (Nat × Ext) := []
def h : List (Nat × Nat × Hint) := [(117, 3, { live := [0, 1, 2, 3], rows := [], own := false, inpl := false })]
noncomputable def e (M : Nat) : Env := env cons exts h M
noncomputable def t117_0 (_ : Nat) : List Ent := []
theorem t117_0_ok (M : Nat) : AllOk (e M) (tblOf (t117_0 M)) := AllOk.nil
structure S3 where
  i15 : Int
  i16 : Int
  d17 : D
  d18 : D
inductive X3 where
  | e0 (i15 : Int) (i16 : Int) (d17 : D) (d18 : D)
def st3 (M : Nat) : S3 → (S3 → Option D) → (X3 → Option D) → Option D
  | ⟨i15, i16, d17, d18⟩, rec, K => (cond (ltI i15 64) (bd (F122.s FUEL i16) fun r19 => (cond (!r19.b) (rec ⟨i15, (ad .i64 i16 1), d17, d18⟩) (bd (F123.s FUEL (cv .u64 i16) 3) fun r20 => (cond (inb i15 64) (cond (ltI i15 8) (bd (F123.s FUEL (cv .u64 i16) 2) fun r21 => (cond (inb i15 8) (rec ⟨(ad .i64 i15 1), (ad .i64 i16 1), (D.agg (d17.parts.set i15.toNat r21)), (D.agg (d18.parts.set i15.toNat r20))⟩) none)) (rec ⟨(ad .i64 i15 1), (ad .i64 i16 1), d17, (D.agg (d18.parts.set i15.toNat r20))⟩)) none)))) (K (.e0 i15 i16 d17 d18)))
def lv3 : S3 → List Leaf
  | ⟨i15, i16, d17, d18⟩ => [.i i15, .i i16, .d d17, .d d18]
def of3 : List Leaf → Option S3
  | [.i i15, .i i16, .d d17, .d d18] => some ⟨i15, i16, d17, d18⟩
  | _ => none
def ex3 (k : Kont) : X3 → Option D
  | .e0 i15 i16 d17 d18 => k (.exit 0) ((.ptr 0 [] (.array 8 165)) :: ((.ptr 1 [] (.array 64 165)) :: ((.d (.int .i64) (di i15)) :: ((.d (.int .i64) (di i16)) :: ((.d (.int .i64) (di i15)) :: ((.d .bool (db (ltI i15 64))) :: (us 21 []))))))) [(.var (.array 8 165) (.d (.array 8 165) d17)), (.var (.array 64 165) (.d (.array 64 165) d18))]
def ps3 : List PV := ((.ptr 0 [] (.array 8 165)) :: ((.ptr 1 [] (.array 64 165)) :: ((.d (.int .i64) (.int .i64)) :: ((.d (.int .i64) (.int .i64)) :: (up 23 [])))))
def qs3 : List PO := [(.var (.array 8 165) (.d (.array 8 165) .x)), (.var (.array 64 165) (.d (.array 64 165) .x))]
noncomputable def sum3 (M : Nat) : Sum := sumS [0, 1, 2, 3] ps3 qs3 [] of3 (st3 M) ex3 M
theorem sok3 (M : Nat) : SumOk (loopRd (e M) 117 3) (e M) (call (e M) 11) 117 0 (loopAt (e M) 117 3) (sum3 M) :=
  sumOk_st (T := tblOf (t117_0 M)) (n0 := 2) (lv := lv3) (t117_0_ok M) (by kernel_rfl) rfl (by intro ls s h; unfold of3 at h; (repeat' split at h) <;> simp at h; subst h; rfl) (by intro s; kernel_rfl) (by intro s; kernel_rfl) (by intro s nx k; kernel_rfl)
noncomputable def t117_1 (M : Nat) : List Ent := ⟨117, 11, 0, 3, sum3 M⟩ :: t117_0 M
theorem t117_1_ok (M : Nat) : AllOk (e M) (tblOf (t117_1 M)) := (t117_0_ok M).add ⟨117, 11, 0, 3, sum3 M⟩ (by kernel_rfl) (sok3 M)
def s (M : Nat)  : Option D :=
  (goS (st3 M) M ⟨0, 2, (da (rp 8 (D.int .u32 0))), (da (rp 64 (D.int .u32 0)))⟩ fun x => match x with | .e0 i15 i16 d17 d18 => (some (D.tup [d17, d18])))
theorem run (M : Nat)  : callS (e M) (tblOf (t117_1 M)) 12 (.fn 117) [] [] (fun v H => finish ty [166, 167] v H) = s M  := by kernel_rfl
noncomputable abbrev t (M : Nat) : List Ent := t117_1 M
theorem t_ok (M : Nat) : AllOk (e M) (tblOf (t M)) := t117_1_ok M
def c : Con := { run := fun ds => match ds with | [] => s FUEL  | _ => none, fresh := false, plain := true }
theorem fun_at : Tryd.prog.funcs[117]? = some Tryd.f117 := by kernel_rfl
theorem params : Tryd.f117.params.toList.map ty = [] := by kernel_rfl
theorem results : Tryd.f117.resultTypes.toList = [166, 167] := by kernel_rfl
theorem flat : Tryd.f117.resultTypes.toList.all (fun t => K.flat ty 20 (ty t)) = true := by kernel_rfl
theorem ok : ConOk (117, c) := by
  intro fn hfn
  obtain rfl : Tryd.f117 = fn := Option.some.inj (fun_at.symm.trans hfn)
  refine contract_flat (n := 20) hgl (fun _ => flat) (fun ds r hh0 hr => ?_)
  rw [params] at hh0
  obtain rfl := hass_nil hh0
  refine ⟨e FUEL, DEPTH, tblOf (t FUEL), envOk (allCons F122.ok (allCons F123.ok allNil)) allNil, rfl, t_ok FUEL, ?_⟩
  rw [params, results]
  exact (run FUEL ).trans hr
end F117
namespace F118
def cons : List (Nat × Con) := []
def exts : List (Nat × Ext) := []
def h : List (Nat × Nat × Hint) := [(118, 2, { live := [0, 3], rows := [(3, 5)], own := false, inpl := false }), (118, 6, { live := [3, 4, 5], rows := [(3, 5)], own := false, inpl := false })]
noncomputable def e (M : Nat) : Env := env cons exts h M
noncomputable def t118_0 (_ : Nat) : List Ent := []
theorem t118_0_ok (M : Nat) : AllOk (e M) (tblOf (t118_0 M)) := AllOk.nil
structure S2 where
  s1 : ByteArray
  n2 : Nat
  n3 : Nat
  b4 : Bool
  l5 : (List D)
inductive X2 where
  | e0 (s1 : ByteArray) (n2 : Nat) (n3 : Nat) (b4 : Bool) (l5 : (List D))
def st2 (M : Nat) : S2 → (S2 → Option D) → (X2 → Option D) → Option D
  | ⟨s1, n2, n3, b4, l5⟩, rec, K => (cond (neI (remI (nI n3) 64) 56) (cond (mx (n3 + 1)) (rec ⟨s1, 0, (n3 + 1), (b4 || true), (ap ((l5.drop n2).take n3) [(D.int .u8 0)])⟩) none) (K (.e0 s1 n2 n3 b4 l5)))
def lv2 : S2 → List Leaf
  | ⟨s1, n2, n3, b4, l5⟩ => [.s s1, .n n2, .n n3, .b b4, .l l5]
def of2 : List Leaf → Option S2
  | [.s s1, .n n2, .n n3, .b b4, .l l5] => some ⟨s1, n2, n3, b4, l5⟩
  | _ => none
def ex2 (k : Kont) : X2 → Option D
  | .e0 s1 n2 n3 b4 l5 => k (.exit 0) ((.d .str (dS s1)) :: (us 2 ((.sref 1 n2 n3) :: (us 6 ((.sref 1 n2 n3) :: ((.d (.int .i64) (di (nI n3))) :: ((.d (.int .i64) (di (remI (nI n3) 64))) :: ((.d .bool (db (neI (remI (nI n3) 64) 56))) :: (us 21 []))))))))) [.dead, (.row 5 true b4 l5)]
def ps2 : List PV := ((.d .str .str) :: (up 2 ((.sref 1) :: (up 31 []))))
def qs2 : List PO := [.dead, (.row 5 true)]
noncomputable def sum2 (M : Nat) : Sum := sumS [0, 3] ps2 qs2 [(3, 1)] of2 (st2 M) ex2 M
theorem sok2 (M : Nat) : SumOk (loopRd (e M) 118 2) (e M) (call (e M) 11) 118 0 (loopAt (e M) 118 2) (sum2 M) :=
  sumOk_st (T := tblOf (t118_0 M)) (n0 := 2) (lv := lv2) (t118_0_ok M) (by kernel_rfl) rfl (by intro ls s h; unfold of2 at h; (repeat' split at h) <;> simp at h; subst h; rfl) (by intro s; kernel_rfl) (by intro s; kernel_rfl) (by intro s nx k; kernel_rfl)
noncomputable def t118_1 (M : Nat) : List Ent := ⟨118, 11, 0, 2, sum2 M⟩ :: t118_0 M
theorem t118_1_ok (M : Nat) : AllOk (e M) (tblOf (t118_1 M)) := (t118_0_ok M).add ⟨118, 11, 0, 2, sum2 M⟩ (by kernel_rfl) (sok2 M)
structure S6 where
  n6 : Nat
  n7 : Nat
  i8 : Int
  i9 : Int
  b10 : Bool
  l11 : (List D)
inductive X6 where
  | e0 (n6 : Nat) (n7 : Nat) (i8 : Int) (i9 : Int) (b10 : Bool) (l11 : (List D))
def st6 (M : Nat) : S6 → (S6 → Option D) → (X6 → Option D) → Option D
  | ⟨n6, n7, i8, i9, b10, l11⟩, rec, K => (cond (geI i9 0) (bd (if (ml .i64 8 i9) < 0 then none else some (.int .u64 (shrI .u64 i8 (ml .i64 8 i9).toNat))) fun r12 => (cond (mx (n7 + 1)) (rec ⟨0, (n7 + 1), i8, (sb .i64 i9 1), (b10 || true), (ap ((l11.drop n6).take n7) [(D.int .u8 (cv .u8 r12.i))])⟩) none)) (K (.e0 n6 n7 i8 i9 b10 l11)))
def lv6 : S6 → List Leaf
  | ⟨n6, n7, i8, i9, b10, l11⟩ => [.n n6, .n n7, .i i8, .i i9, .b b10, .l l11]
def of6 : List Leaf → Option S6
  | [.n n6, .n n7, .i i8, .i i9, .b b10, .l l11] => some ⟨n6, n7, i8, i9, b10, l11⟩
  | _ => none
def ex6 (k : Kont) : X6 → Option D
  | .e0 n6 n7 i8 i9 b10 l11 => k (.exit 2) (us 3 ((.sref 1 n6 n7) :: ((.d (.int .u64) (D.int .u64 i8)) :: ((.d (.int .i64) (di i9)) :: (us 15 ((.d (.int .i64) (di i9)) :: ((.d .bool (db (geI i9 0))) :: (us 12 [])))))))) [.dead, (.row 5 true b10 l11)]
def ps6 : List PV := (up 3 ((.sref 1) :: ((.d (.int .u64) (.int .u64)) :: ((.d (.int .i64) (.int .i64)) :: (up 29 [])))))
def qs6 : List PO := [.dead, (.row 5 true)]
noncomputable def sum6 (M : Nat) : Sum := sumS [3, 4, 5] ps6 qs6 [(3, 1)] of6 (st6 M) ex6 M
theorem sok6 (M : Nat) : SumOk (loopRd (e M) 118 6) (e M) (call (e M) 11) 118 0 (loopAt (e M) 118 6) (sum6 M) :=
  sumOk_st (T := tblOf (t118_1 M)) (n0 := 2) (lv := lv6) (t118_1_ok M) (by kernel_rfl) rfl (by intro ls s h; unfold of6 at h; (repeat' split at h) <;> simp at h; subst h; rfl) (by intro s; kernel_rfl) (by intro s; kernel_rfl) (by intro s nx k; kernel_rfl)
noncomputable def t118_2 (M : Nat) : List Ent := ⟨118, 11, 0, 6, sum6 M⟩ :: t118_1 M
theorem t118_2_ok (M : Nat) : AllOk (e M) (tblOf (t118_2 M)) := (t118_1_ok M).add ⟨118, 11, 0, 6, sum6 M⟩ (by kernel_rfl) (sok6 M)
def s (M : Nat) (p0 : ByteArray) : Option D :=
  (cond (mx p0.size) (cond (mx (p0.size + 1)) (goS (st2 M) M ⟨p0, 0, (p0.size + 1), true, (ap (((bytesOf p0).drop 0).take p0.size) [(D.int .u8 128)])⟩ fun x => match x with | .e0 s1 n2 n3 b4 l5 => (goS (st6 M) M ⟨n2, n3, (shlI .u64 (cv .u64 (nI s1.size)) 3), 7, b4, l5⟩ fun x => match x with | .e0 n6 n7 i8 i9 b10 l11 => (some (dS (ofBytes ((l11.drop n6).take n7)))))) none) none)
theorem run (M : Nat) (p0 : ByteArray) : callS (e M) (tblOf (t118_2 M)) 12 (.fn 118) [.d .str (dS p0)] [] (fun v H => finish ty [9] v H) = s M p0 := by kernel_rfl
noncomputable abbrev t (M : Nat) : List Ent := t118_2 M
theorem t_ok (M : Nat) : AllOk (e M) (tblOf (t M)) := t118_2_ok M
def c : Con := { run := fun ds => match ds with | [p0] => s FUEL p0.s | _ => none, fresh := false, plain := true }
theorem fun_at : Tryd.prog.funcs[118]? = some Tryd.f118 := by kernel_rfl
theorem params : Tryd.f118.params.toList.map ty = [.str] := by kernel_rfl
theorem results : Tryd.f118.resultTypes.toList = [9] := by kernel_rfl
theorem flat : Tryd.f118.resultTypes.toList.all (fun t => K.flat ty 20 (ty t)) = true := by kernel_rfl
theorem ok : ConOk (118, c) := by
  intro fn hfn
  obtain rfl : Tryd.f118 = fn := Option.some.inj (fun_at.symm.trans hfn)
  refine contract_flat (n := 20) hgl (fun _ => flat) (fun ds r hh0 hr => ?_)
  rw [params] at hh0
  obtain ⟨p0, ds0, rfl, h0, hh1⟩ := hass_cons hh0
  obtain ⟨p0, rfl⟩ := has_str h0
  obtain rfl := hass_nil hh1
  refine ⟨e FUEL, DEPTH, tblOf (t FUEL), envOk allNil allNil, rfl, t_ok FUEL, ?_⟩
  rw [params, results]
  exact (run FUEL p0).trans hr
end F118
namespace F128
def cons : List (Nat × Con) := []
def exts : List (Nat × Ext) := []
def h : List (Nat × Nat × Hint) := []
noncomputable def e (M : Nat) : Env := env cons exts h M
noncomputable def t128_0 (_ : Nat) : List Ent := []
theorem t128_0_ok (M : Nat) : AllOk (e M) (tblOf (t128_0 M)) := AllOk.nil
def s (M : Nat) (p0 : Int) (p1 : Int) : Option D :=
  (bd (if (andI .u64 (cv .u64 p1) 31) < 0 then none else some (.int .u32 (shlI .u32 p0 (andI .u64 (cv .u64 p1) 31).toNat))) fun r1 => (bd (if (sb .u64 32 (andI .u64 (cv .u64 p1) 31)) < 0 then none else some (.int .u32 (shrI .u32 p0 (sb .u64 32 (andI .u64 (cv .u64 p1) 31)).toNat))) fun r2 => (some (D.int .u32 (orI .u32 r1.i r2.i)))))
theorem run (M : Nat) (p0 : Int) (p1 : Int) : callS (e M) (tblOf (t128_0 M)) 12 (.fn 128) [.d (.int .u32) (D.int .u32 p0), .d (.int .i64) (di p1)] [] (fun v H => finish ty [165] v H) = s M p0 p1 := by kernel_rfl
noncomputable abbrev t (M : Nat) : List Ent := t128_0 M
theorem t_ok (M : Nat) : AllOk (e M) (tblOf (t M)) := t128_0_ok M
def c : Con := { run := fun ds => match ds with | [p0, p1] => s FUEL p0.i p1.i | _ => none, fresh := false, plain := true }
theorem fun_at : Tryd.prog.funcs[128]? = some Tryd.f128 := by kernel_rfl
theorem params : Tryd.f128.params.toList.map ty = [(.int .u32), (.int .i64)] := by kernel_rfl
theorem results : Tryd.f128.resultTypes.toList = [165] := by kernel_rfl
theorem flat : Tryd.f128.resultTypes.toList.all (fun t => K.flat ty 20 (ty t)) = true := by kernel_rfl
theorem ok : ConOk (128, c) := by
  intro fn hfn
  obtain rfl : Tryd.f128 = fn := Option.some.inj (fun_at.symm.trans hfn)
  refine contract_flat (n := 20) hgl (fun _ => flat) (fun ds r hh0 hr => ?_)
  rw [params] at hh0
  obtain ⟨p0, ds0, rfl, h0, hh1⟩ := hass_cons hh0
  obtain ⟨p0, rfl⟩ := has_int h0
  obtain ⟨p1, ds1, rfl, h1, hh2⟩ := hass_cons hh1
  obtain ⟨p1, rfl⟩ := has_int h1
  obtain rfl := hass_nil hh2
  refine ⟨e FUEL, DEPTH, tblOf (t FUEL), envOk allNil allNil, rfl, t_ok FUEL, ?_⟩
  rw [params, results]
  exact (run FUEL p0 p1).trans hr
end F128
namespace F125
def cons : List (Nat × Con) := [(128, F128.c)]
def exts : List (Nat × Ext) := []
def h : List (Nat × Nat × Hint) := []
noncomputable def e (M : Nat) : Env := env cons exts h M
noncomputable def t125_0 (_ : Nat) : List Ent := []
theorem t125_0_ok (M : Nat) : AllOk (e M) (tblOf (t125_0 M)) := AllOk.nil
def s (M : Nat) (p0 : Int) (p1 : Int) : Option D :=
  (bd (F128.s FUEL p0 (sb .i64 0 p1)) fun r1 => (some r1))
theorem run (M : Nat) (p0 : Int) (p1 : Int) : callS (e M) (tblOf (t125_0 M)) 12 (.fn 125) [.d (.int .u32) (D.int .u32 p0), .d (.int .i64) (di p1)] [] (fun v H => finish ty [165] v H) = s M p0 p1 := by kernel_rfl
noncomputable abbrev t (M : Nat) : List Ent := t125_0 M
theorem t_ok (M : Nat) : AllOk (e M) (tblOf (t M)) := t125_0_ok M
def c : Con := { run := fun ds => match ds with | [p0, p1] => s FUEL p0.i p1.i | _ => none, fresh := false, plain := true }
theorem fun_at : Tryd.prog.funcs[125]? = some Tryd.f125 := by kernel_rfl
theorem params : Tryd.f125.params.toList.map ty = [(.int .u32), (.int .i64)] := by kernel_rfl
theorem results : Tryd.f125.resultTypes.toList = [165] := by kernel_rfl
theorem flat : Tryd.f125.resultTypes.toList.all (fun t => K.flat ty 20 (ty t)) = true := by kernel_rfl
theorem ok : ConOk (125, c) := by
  intro fn hfn
  obtain rfl : Tryd.f125 = fn := Option.some.inj (fun_at.symm.trans hfn)
  refine contract_flat (n := 20) hgl (fun _ => flat) (fun ds r hh0 hr => ?_)
  rw [params] at hh0
  obtain ⟨p0, ds0, rfl, h0, hh1⟩ := hass_cons hh0
  obtain ⟨p0, rfl⟩ := has_int h0
  obtain ⟨p1, ds1, rfl, h1, hh2⟩ := hass_cons hh1
  obtain ⟨p1, rfl⟩ := has_int h1
  obtain rfl := hass_nil hh2
  refine ⟨e FUEL, DEPTH, tblOf (t FUEL), envOk (allCons F128.ok allNil) allNil, rfl, t_ok FUEL, ?_⟩
  rw [params, results]
  exact (run FUEL p0 p1).trans hr
end F125
namespace F124
def cons : List (Nat × Con) := [(125, F125.c)]
def exts : List (Nat × Ext) := []
def h : List (Nat × Nat × Hint) := [(124, 3, { live := [0, 2, 3, 7], rows := [], own := false, inpl := false })]
noncomputable def e (M : Nat) : Env := env cons exts h M
noncomputable def t124_0 (_ : Nat) : List Ent := []
theorem t124_0_ok (M : Nat) : AllOk (e M) (tblOf (t124_0 M)) := AllOk.nil
structure S3 where
  s1 : ByteArray
  i2 : Int
  d3 : D
  d4 : D
inductive X3 where
  | e0 (s1 : ByteArray) (i2 : Int) (d3 : D) (d4 : D)
def st3 (M : Nat) : S3 → (S3 → Option D) → (X3 → Option D) → Option D
  | ⟨s1, i2, d3, d4⟩, rec, K => (cond (ltI i2 64) (cond (ltI i2 16) (cond (inb (ml .i64 4 i2) s1.size) (cond (inb (ad .i64 (ml .i64 4 i2) 1) s1.size) (cond (inb (ad .i64 (ml .i64 4 i2) 2) s1.size) (cond (inb (ad .i64 (ml .i64 4 i2) 3) s1.size) (cond (inb i2 64) (rec ⟨s1, (ad .i64 i2 1), d3, (D.agg (d4.parts.set i2.toNat (D.int .u32 (orI .u32 (orI .u32 (orI .u32 (shlI .u32 (cv .u32 (byteAt s1 (ml .i64 4 i2).toNat)) 24) (shlI .u32 (cv .u32 (byteAt s1 (ad .i64 (ml .i64 4 i2) 1).toNat)) 16)) (shlI .u32 (cv .u32 (byteAt s1 (ad .i64 (ml .i64 4 i2) 2).toNat)) 8)) (cv .u32 (byteAt s1 (ad .i64 (ml .i64 4 i2) 3).toNat))))))⟩) none) none) none) none) none) (cond (inb (sb .i64 i2 15) 64) (cond (inb (sb .i64 i2 2) 64) (cond (inb (sb .i64 i2 16) 64) (bd (F125.s FUEL (d4.at (sb .i64 i2 15).toNat).i 7) fun r5 => (bd (F125.s FUEL (d4.at (sb .i64 i2 15).toNat).i 18) fun r6 => (cond (inb (sb .i64 i2 7) 64) (bd (F125.s FUEL (d4.at (sb .i64 i2 2).toNat).i 17) fun r7 => (bd (F125.s FUEL (d4.at (sb .i64 i2 2).toNat).i 19) fun r8 => (cond (inb i2 64) (rec ⟨s1, (ad .i64 i2 1), d3, (D.agg (d4.parts.set i2.toNat (D.int .u32 (ad .u32 (ad .u32 (ad .u32 (d4.at (sb .i64 i2 16).toNat).i (xorI .u32 (xorI .u32 r5.i r6.i) (shrI .u32 (d4.at (sb .i64 i2 15).toNat).i 3))) (d4.at (sb .i64 i2 7).toNat).i) (xorI .u32 (xorI .u32 r7.i r8.i) (shrI .u32 (d4.at (sb .i64 i2 2).toNat).i 10))))))⟩) none))) none))) none) none) none)) (K (.e0 s1 i2 d3 d4)))
def lv3 : S3 → List Leaf
  | ⟨s1, i2, d3, d4⟩ => [.s s1, .i i2, .d d3, .d d4]
def of3 : List Leaf → Option S3
  | [.s s1, .i i2, .d d3, .d d4] => some ⟨s1, i2, d3, d4⟩
  | _ => none
def ex3 (k : Kont) : X3 → Option D
  | .e0 s1 i2 d3 d4 => k (.exit 0) ((.d .str (dS s1)) :: (us 1 ((.ptr 0 [] (.array 64 165)) :: ((.ptr 1 [] (.array 64 165)) :: (us 3 ((.d (.int .i64) (di i2)) :: ((.d .bool (db (ltI i2 64))) :: (us 73 [])))))))) [(.var (.array 64 165) (.d (.array 64 165) d3)), (.var (.array 64 165) (.d (.array 64 165) d4))]
def ps3 : List PV := ((.d .str .str) :: (up 1 ((.ptr 0 [] (.array 64 165)) :: ((.ptr 1 [] (.array 64 165)) :: (up 3 ((.d (.int .i64) (.int .i64)) :: (up 74 [])))))))
def qs3 : List PO := [(.var (.array 64 165) (.d (.array 64 165) .x)), (.var (.array 64 165) (.d (.array 64 165) .x))]
noncomputable def sum3 (M : Nat) : Sum := sumS [0, 2, 3, 7] ps3 qs3 [] of3 (st3 M) ex3 M
theorem sok3 (M : Nat) : SumOk (loopRd (e M) 124 3) (e M) (call (e M) 11) 124 0 (loopAt (e M) 124 3) (sum3 M) :=
  sumOk_st (T := tblOf (t124_0 M)) (n0 := 2) (lv := lv3) (t124_0_ok M) (by kernel_rfl) rfl (by intro ls s h; unfold of3 at h; (repeat' split at h) <;> simp at h; subst h; rfl) (by intro s; kernel_rfl) (by intro s; kernel_rfl) (by intro s nx k; kernel_rfl)
noncomputable def t124_1 (M : Nat) : List Ent := ⟨124, 11, 0, 3, sum3 M⟩ :: t124_0 M
theorem t124_1_ok (M : Nat) : AllOk (e M) (tblOf (t124_1 M)) := (t124_0_ok M).add ⟨124, 11, 0, 3, sum3 M⟩ (by kernel_rfl) (sok3 M)
def s (M : Nat) (p0 : ByteArray) : Option D :=
  (goS (st3 M) M ⟨p0, 0, (da (rp 64 (D.int .u32 0))), (da (rp 64 (D.int .u32 0)))⟩ fun x => match x with | .e0 s1 i2 d3 d4 => (some d4))
theorem run (M : Nat) (p0 : ByteArray) : callS (e M) (tblOf (t124_1 M)) 12 (.fn 124) [.d .str (dS p0)] [] (fun v H => finish ty [167] v H) = s M p0 := by kernel_rfl
noncomputable abbrev t (M : Nat) : List Ent := t124_1 M
theorem t_ok (M : Nat) : AllOk (e M) (tblOf (t M)) := t124_1_ok M
def c : Con := { run := fun ds => match ds with | [p0] => s FUEL p0.s | _ => none, fresh := false, plain := true }
theorem fun_at : Tryd.prog.funcs[124]? = some Tryd.f124 := by kernel_rfl
theorem params : Tryd.f124.params.toList.map ty = [.str] := by kernel_rfl
theorem results : Tryd.f124.resultTypes.toList = [167] := by kernel_rfl
theorem flat : Tryd.f124.resultTypes.toList.all (fun t => K.flat ty 20 (ty t)) = true := by kernel_rfl
theorem ok : ConOk (124, c) := by
  intro fn hfn
  obtain rfl : Tryd.f124 = fn := Option.some.inj (fun_at.symm.trans hfn)
  refine contract_flat (n := 20) hgl (fun _ => flat) (fun ds r hh0 hr => ?_)
  rw [params] at hh0
  obtain ⟨p0, ds0, rfl, h0, hh1⟩ := hass_cons hh0
  obtain ⟨p0, rfl⟩ := has_str h0
  obtain rfl := hass_nil hh1
  refine ⟨e FUEL, DEPTH, tblOf (t FUEL), envOk (allCons F125.ok allNil) allNil, rfl, t_ok FUEL, ?_⟩
  rw [params, results]
  exact (run FUEL p0).trans hr
end F124
namespace F119
def cons : List (Nat × Con) := [(124, F124.c), (125, F125.c)]
def exts : List (Nat × Ext) := []
def h : List (Nat × Nat × Hint) := [(119, 1, { live := [], rows := [], own := true, inpl := false }), (119, 3, { live := [3, 4, 6, 7, 17, 18], rows := [], own := false, inpl := false }), (119, 13, { live := [3, 6, 7, 91], rows := [], own := false, inpl := false })]
noncomputable def e (M : Nat) : Env := env cons exts h M
noncomputable def t119_0 (_ : Nat) : List Ent := []
theorem t119_0_ok (M : Nat) : AllOk (e M) (tblOf (t119_0 M)) := AllOk.nil
structure S3 where
  d2 : D
  i3 : Int
  d4 : D
  d5 : D
  i6 : Int
  i7 : Int
  i8 : Int
  i9 : Int
  i10 : Int
  i11 : Int
  i12 : Int
  i13 : Int
  b14 : Bool
  l15 : (List D)
inductive X3 where
  | e0 (d2 : D) (i3 : Int) (d4 : D) (d5 : D) (i6 : Int) (i7 : Int) (i8 : Int) (i9 : Int) (i10 : Int) (i11 : Int) (i12 : Int) (i13 : Int) (b14 : Bool) (l15 : (List D))
def st3 (M : Nat) : S3 → (S3 → Option D) → (X3 → Option D) → Option D
  | ⟨d2, i3, d4, d5, i6, i7, i8, i9, i10, i11, i12, i13, b14, l15⟩, rec, K => (cond (ltI i3 64) (cond (inb i3 64) (bd (F125.s FUEL (ix l15 4).i 6) fun r16 => (bd (F125.s FUEL (ix l15 4).i 11) fun r17 => (bd (F125.s FUEL (ix l15 4).i 25) fun r18 => (cond (inb i3 64) (bd (F125.s FUEL (ix l15 0).i 2) fun r19 => (bd (F125.s FUEL (ix l15 0).i 13) fun r20 => (bd (F125.s FUEL (ix l15 0).i 22) fun r21 => (cond (true && true && true && (Nat.beq l15.length 8)) (cond (true && true && true && (Nat.beq l15.length 8)) (rec ⟨d2, (ad .i64 i3 1), d4, d5, i6, i7, i8, i9, i10, i11, i12, i13, b14, (((ap (ap (l15.take 1) (((l15.drop 0).take 7).take (min ((l15.drop 0).take 7).length 7))) (l15.drop (1 + (min ((l15.drop 0).take 7).length 7)))).set 0 (D.int .u32 (ad .u32 (ad .u32 (ad .u32 (ad .u32 (ad .u32 (ix l15 7).i (xorI .u32 (xorI .u32 r16.i r17.i) r18.i)) (xorI .u32 (andI .u32 (ix l15 4).i (ix l15 5).i) (andI .u32 (notI .u32 (ix l15 4).i) (ix l15 6).i))) (d5.at i3.toNat).i) (d2.at i3.toNat).i) (ad .u32 (xorI .u32 (xorI .u32 r19.i r20.i) r21.i) (xorI .u32 (xorI .u32 (andI .u32 (ix l15 0).i (ix l15 1).i) (andI .u32 (ix l15 0).i (ix l15 2).i)) (andI .u32 (ix l15 1).i (ix l15 2).i)))))).set 4 (D.int .u32 (ad .u32 (ix ((ap (ap (l15.take 1) (((l15.drop 0).take 7).take (min ((l15.drop 0).take 7).length 7))) (l15.drop (1 + (min ((l15.drop 0).take 7).length 7)))).set 0 (D.int .u32 (ad .u32 (ad .u32 (ad .u32 (ad .u32 (ad .u32 (ix l15 7).i (xorI .u32 (xorI .u32 r16.i r17.i) r18.i)) (xorI .u32 (andI .u32 (ix l15 4).i (ix l15 5).i) (andI .u32 (notI .u32 (ix l15 4).i) (ix l15 6).i))) (d5.at i3.toNat).i) (d2.at i3.toNat).i) (ad .u32 (xorI .u32 (xorI .u32 r19.i r20.i) r21.i) (xorI .u32 (xorI .u32 (andI .u32 (ix l15 0).i (ix l15 1).i) (andI .u32 (ix l15 0).i (ix l15 2).i)) (andI .u32 (ix l15 1).i (ix l15 2).i)))))) 4).i (ad .u32 (ad .u32 (ad .u32 (ad .u32 (ix l15 7).i (xorI .u32 (xorI .u32 r16.i r17.i) r18.i)) (xorI .u32 (andI .u32 (ix l15 4).i (ix l15 5).i) (andI .u32 (notI .u32 (ix l15 4).i) (ix l15 6).i))) (d5.at i3.toNat).i) (d2.at i3.toNat).i))))⟩) none) none)))) none)))) none) (K (.e0 d2 i3 d4 d5 i6 i7 i8 i9 i10 i11 i12 i13 b14 l15)))
def lv3 : S3 → List Leaf
  | ⟨d2, i3, d4, d5, i6, i7, i8, i9, i10, i11, i12, i13, b14, l15⟩ => [.d d2, .i i3, .d d4, .d d5, .i i6, .i i7, .i i8, .i i9, .i i10, .i i11, .i i12, .i i13, .b b14, .l l15]
def of3 : List Leaf → Option S3
  | [.d d2, .i i3, .d d4, .d d5, .i i6, .i i7, .i i8, .i i9, .i i10, .i i11, .i i12, .i i13, .b b14, .l l15] => some ⟨d2, i3, d4, d5, i6, i7, i8, i9, i10, i11, i12, i13, b14, l15⟩
  | _ => none
def ex3 (k : Kont) : X3 → Option D
  | .e0 d2 i3 d4 d5 i6 i7 i8 i9 i10 i11 i12 i13 b14 l15 => k (.exit 0) (us 3 ((.ptr 0 [] (.array 8 165)) :: ((.ptr 1 [] (.array 64 165)) :: (us 1 ((.ptr 2 [] (.array 8 165)) :: ((.ptr 3 [] (.array 8 165)) :: (us 9 ((.d (.array 64 165) d2) :: ((.d (.int .i64) (di i3)) :: ((.d .bool (db (ltI i3 64))) :: (us 84 []))))))))))) [(.var (.array 8 165) (.d (.array 8 165) d4)), (.var (.array 64 165) (.d (.array 64 165) d5)), (.var (.array 8 165) (.d (.array 8 165) (da [(D.int .u32 i6), (D.int .u32 i7), (D.int .u32 i8), (D.int .u32 i9), (D.int .u32 i10), (D.int .u32 i11), (D.int .u32 i12), (D.int .u32 i13)]))), (.row 165 true b14 l15)]
def ps3 : List PV := (up 3 ((.ptr 0 [] (.array 8 165)) :: ((.ptr 1 [] (.array 64 165)) :: (up 1 ((.ptr 2 [] (.array 8 165)) :: ((.ptr 3 [] (.array 8 165)) :: (up 9 ((.d (.array 64 165) .x) :: ((.d (.int .i64) (.int .i64)) :: (up 85 []))))))))))
def qs3 : List PO := [(.var (.array 8 165) (.d (.array 8 165) .x)), (.var (.array 64 165) (.d (.array 64 165) .x)), (.var (.array 8 165) (.d (.array 8 165) (.agg [(.int .u32), (.int .u32), (.int .u32), (.int .u32), (.int .u32), (.int .u32), (.int .u32), (.int .u32)]))), (.row 165 true)]
noncomputable def sum3 (M : Nat) : Sum := sumS [3, 4, 6, 7, 17, 18] ps3 qs3 [] of3 (st3 M) ex3 M
theorem sok3 (M : Nat) : SumOk (loopRd (e M) 119 3) (e M) (call (e M) 11) 119 0 (loopAt (e M) 119 3) (sum3 M) :=
  sumOk_st (T := tblOf (t119_0 M)) (n0 := 4) (lv := lv3) (t119_0_ok M) (by kernel_rfl) rfl (by intro ls s h; unfold of3 at h; (repeat' split at h) <;> simp at h; subst h; rfl) (by intro s; kernel_rfl) (by intro s; kernel_rfl) (by intro s nx k; kernel_rfl)
noncomputable def t119_1 (M : Nat) : List Ent := ⟨119, 11, 0, 3, sum3 M⟩ :: t119_0 M
theorem t119_1_ok (M : Nat) : AllOk (e M) (tblOf (t119_1 M)) := (t119_0_ok M).add ⟨119, 11, 0, 3, sum3 M⟩ (by kernel_rfl) (sok3 M)
structure S13 where
  i22 : Int
  d23 : D
  d24 : D
  i25 : Int
  i26 : Int
  i27 : Int
  i28 : Int
  i29 : Int
  i30 : Int
  i31 : Int
  i32 : Int
  b33 : Bool
  l34 : (List D)
inductive X13 where
  | e0 (i22 : Int) (d23 : D) (d24 : D) (i25 : Int) (i26 : Int) (i27 : Int) (i28 : Int) (i29 : Int) (i30 : Int) (i31 : Int) (i32 : Int) (b33 : Bool) (l34 : (List D))
def st13 (M : Nat) : S13 → (S13 → Option D) → (X13 → Option D) → Option D
  | ⟨i22, d23, d24, i25, i26, i27, i28, i29, i30, i31, i32, b33, l34⟩, rec, K => (cond (ltI i22 8) (cond (inb i22 8) (cond (inb i22 8) (cond (inb i22 8) (rec ⟨(ad .i64 i22 1), (D.agg (d23.parts.set i22.toNat (D.int .u32 (ad .u32 (d23.at i22.toNat).i (ix l34 i22.toNat).i)))), d24, i25, i26, i27, i28, i29, i30, i31, i32, b33, l34⟩) none) none) none) (K (.e0 i22 d23 d24 i25 i26 i27 i28 i29 i30 i31 i32 b33 l34)))
def lv13 : S13 → List Leaf
  | ⟨i22, d23, d24, i25, i26, i27, i28, i29, i30, i31, i32, b33, l34⟩ => [.i i22, .d d23, .d d24, .i i25, .i i26, .i i27, .i i28, .i i29, .i i30, .i i31, .i i32, .b b33, .l l34]
def of13 : List Leaf → Option S13
  | [.i i22, .d d23, .d d24, .i i25, .i i26, .i i27, .i i28, .i i29, .i i30, .i i31, .i i32, .b b33, .l l34] => some ⟨i22, d23, d24, i25, i26, i27, i28, i29, i30, i31, i32, b33, l34⟩
  | _ => none
def ex13 (k : Kont) : X13 → Option D
  | .e0 i22 d23 d24 i25 i26 i27 i28 i29 i30 i31 i32 b33 l34 => k (.exit 2) (us 3 ((.ptr 0 [] (.array 8 165)) :: (us 2 ((.ptr 2 [] (.array 8 165)) :: ((.ptr 3 [] (.array 8 165)) :: (us 83 ((.d (.int .i64) (di i22)) :: ((.d .bool (db (ltI i22 8))) :: (us 11 []))))))))) [(.var (.array 8 165) (.d (.array 8 165) d23)), (.var (.array 64 165) (.d (.array 64 165) d24)), (.var (.array 8 165) (.d (.array 8 165) (da [(D.int .u32 i25), (D.int .u32 i26), (D.int .u32 i27), (D.int .u32 i28), (D.int .u32 i29), (D.int .u32 i30), (D.int .u32 i31), (D.int .u32 i32)]))), (.row 165 true b33 l34)]
def ps13 : List PV := (up 3 ((.ptr 0 [] (.array 8 165)) :: (up 2 ((.ptr 2 [] (.array 8 165)) :: ((.ptr 3 [] (.array 8 165)) :: (up 83 ((.d (.int .i64) (.int .i64)) :: (up 12 []))))))))
def qs13 : List PO := [(.var (.array 8 165) (.d (.array 8 165) .x)), (.var (.array 64 165) (.d (.array 64 165) .x)), (.var (.array 8 165) (.d (.array 8 165) (.agg [(.int .u32), (.int .u32), (.int .u32), (.int .u32), (.int .u32), (.int .u32), (.int .u32), (.int .u32)]))), (.row 165 true)]
noncomputable def sum13 (M : Nat) : Sum := sumS [3, 6, 7, 91] ps13 qs13 [] of13 (st13 M) ex13 M
theorem sok13 (M : Nat) : SumOk (loopRd (e M) 119 13) (e M) (call (e M) 11) 119 0 (loopAt (e M) 119 13) (sum13 M) :=
  sumOk_st (T := tblOf (t119_1 M)) (n0 := 4) (lv := lv13) (t119_1_ok M) (by kernel_rfl) rfl (by intro ls s h; unfold of13 at h; (repeat' split at h) <;> simp at h; subst h; rfl) (by intro s; kernel_rfl) (by intro s; kernel_rfl) (by intro s nx k; kernel_rfl)
noncomputable def t119_2 (M : Nat) : List Ent := ⟨119, 11, 0, 13, sum13 M⟩ :: t119_1 M
theorem t119_2_ok (M : Nat) : AllOk (e M) (tblOf (t119_2 M)) := (t119_1_ok M).add ⟨119, 11, 0, 13, sum13 M⟩ (by kernel_rfl) (sok13 M)
def s (M : Nat) (p0 : D) (p1 : D) (p2 : ByteArray) : Option D :=
  (cond (Nat.beq p0.parts.length 8) (bd (F124.s FUEL p2) fun r1 => (goS (st3 M) M ⟨r1, 0, p0, p1, 0, 0, 0, 0, 0, 0, 0, 0, true, p0.parts⟩ fun x => match x with | .e0 d2 i3 d4 d5 i6 i7 i8 i9 i10 i11 i12 i13 b14 l15 => (goS (st13 M) M ⟨0, d4, d5, i6, i7, i8, i9, i10, i11, i12, i13, b14, l15⟩ fun x => match x with | .e0 i22 d23 d24 i25 i26 i27 i28 i29 i30 i31 i32 b33 l34 => (some d23)))) none)
theorem run (M : Nat) (p0 : D) (p1 : D) (p2 : ByteArray) : callS (e M) (tblOf (t119_2 M)) 12 (.fn 119) [.d (.array 8 165) p0, .d (.array 64 165) p1, .d .str (dS p2)] [] (fun v H => finish ty [166] v H) = s M p0 p1 p2 := by kernel_rfl
noncomputable abbrev t (M : Nat) : List Ent := t119_2 M
theorem t_ok (M : Nat) : AllOk (e M) (tblOf (t M)) := t119_2_ok M
def c : Con := { run := fun ds => match ds with | [p0, p1, p2] => s FUEL p0 p1 p2.s | _ => none, fresh := false, plain := true }
theorem fun_at : Tryd.prog.funcs[119]? = some Tryd.f119 := by kernel_rfl
theorem params : Tryd.f119.params.toList.map ty = [(.array 8 165), (.array 64 165), .str] := by kernel_rfl
theorem results : Tryd.f119.resultTypes.toList = [166] := by kernel_rfl
theorem flat : Tryd.f119.resultTypes.toList.all (fun t => K.flat ty 20 (ty t)) = true := by kernel_rfl
theorem ok : ConOk (119, c) := by
  intro fn hfn
  obtain rfl : Tryd.f119 = fn := Option.some.inj (fun_at.symm.trans hfn)
  refine contract_flat (n := 20) hgl (fun _ => flat) (fun ds r hh0 hr => ?_)
  rw [params] at hh0
  obtain ⟨p0, ds0, rfl, h0, hh1⟩ := hass_cons hh0
  obtain ⟨p1, ds1, rfl, h1, hh2⟩ := hass_cons hh1
  obtain ⟨p2, ds2, rfl, h2, hh3⟩ := hass_cons hh2
  obtain ⟨p2, rfl⟩ := has_str h2
  obtain rfl := hass_nil hh3
  refine ⟨e FUEL, DEPTH, tblOf (t FUEL), envOk (allCons F124.ok (allCons F125.ok allNil)) allNil, rfl, t_ok FUEL, ?_⟩
  rw [params, results]
  exact (run FUEL p0 p1 p2).trans hr
end F119
namespace F112
def cons : List (Nat × Con) := [(117, F117.c), (118, F118.c), (119, F119.c)]
def exts : List (Nat × Ext) := []
def h : List (Nat × Nat × Hint) := [(112, 3, { live := [2, 3, 4, 5], rows := [], own := false, inpl := false }), (112, 8, { live := [2, 3, 6, 24], rows := [], own := false, inpl := false })]
noncomputable def e (M : Nat) : Env := env cons exts h M
noncomputable def t112_0 (_ : Nat) : List Ent := []
theorem t112_0_ok (M : Nat) : AllOk (e M) (tblOf (t112_0 M)) := AllOk.nil
structure S3 where
  d3 : D
  d4 : D
  d5 : D
  d6 : D
inductive X3 where
  | e0 (d3 : D) (d4 : D) (d5 : D) (d6 : D)
def st3 (M : Nat) : S3 → (S3 → Option D) → (X3 → Option D) → Option D
  | ⟨d3, d4, d5, d6⟩, rec, K => (cond (gtI (nI d3.s.size) 0) (cond (true && true && (leI 64 (nI d3.s.size)) && (leI (nI d3.s.size) (nI d3.s.size))) (bd (F119.s FUEL d5 d6 (d3.s.extract 0 64)) fun r7 => (cond (true && (leI 64 (nI d3.s.size)) && (leI (nI d3.s.size) (nI d3.s.size)) && (leI (nI d3.s.size) (nI d3.s.size))) (rec ⟨(dS (d3.s.extract 64 d3.s.size)), d4, r7, d6⟩) none)) none) (K (.e0 d3 d4 d5 d6)))
def lv3 : S3 → List Leaf
  | ⟨d3, d4, d5, d6⟩ => [.d d3, .d d4, .d d5, .d d6]
def of3 : List Leaf → Option S3
  | [.d d3, .d d4, .d d5, .d d6] => some ⟨d3, d4, d5, d6⟩
  | _ => none
def ex3 (k : Kont) : X3 → Option D
  | .e0 d3 d4 d5 d6 => k (.exit 0) (us 2 ((.ptr 0 [] (.array 32 5)) :: ((.ptr 1 [] (.array 8 165)) :: ((.ptr 2 [] (.array 64 165)) :: ((.d .str d3) :: (us 8 ((.d .str d3) :: ((.d (.int .i64) (di (nI d3.s.size))) :: ((.d .bool (db (gtI (nI d3.s.size) 0))) :: (us 24 [])))))))))) [(.var (.array 32 5) (.d (.array 32 5) d4)), (.var (.array 8 165) (.d (.array 8 165) d5)), (.var (.array 64 165) (.d (.array 64 165) d6))]
def ps3 : List PV := (up 2 ((.ptr 0 [] (.array 32 5)) :: ((.ptr 1 [] (.array 8 165)) :: ((.ptr 2 [] (.array 64 165)) :: ((.d .str .x) :: (up 35 []))))))
def qs3 : List PO := [(.var (.array 32 5) (.d (.array 32 5) .x)), (.var (.array 8 165) (.d (.array 8 165) .x)), (.var (.array 64 165) (.d (.array 64 165) .x))]
noncomputable def sum3 (M : Nat) : Sum := sumS [2, 3, 4, 5] ps3 qs3 [] of3 (st3 M) ex3 M
theorem sok3 (M : Nat) : SumOk (loopRd (e M) 112 3) (e M) (call (e M) 11) 112 0 (loopAt (e M) 112 3) (sum3 M) :=
  sumOk_st (T := tblOf (t112_0 M)) (n0 := 3) (lv := lv3) (t112_0_ok M) (by kernel_rfl) rfl (by intro ls s h; unfold of3 at h; (repeat' split at h) <;> simp at h; subst h; rfl) (by intro s; kernel_rfl) (by intro s; kernel_rfl) (by intro s nx k; kernel_rfl)
noncomputable def t112_1 (M : Nat) : List Ent := ⟨112, 11, 0, 3, sum3 M⟩ :: t112_0 M
theorem t112_1_ok (M : Nat) : AllOk (e M) (tblOf (t112_1 M)) := (t112_0_ok M).add ⟨112, 11, 0, 3, sum3 M⟩ (by kernel_rfl) (sok3 M)
structure S8 where
  i8 : Int
  d9 : D
  d10 : D
  d11 : D
  d12 : D
inductive X8 where
  | e0 (i8 : Int) (d9 : D) (d10 : D) (d11 : D) (d12 : D)
def st8 (M : Nat) : S8 → (S8 → Option D) → (X8 → Option D) → Option D
  | ⟨i8, d9, d10, d11, d12⟩, rec, K => (cond (ltI i8 32) (cond (inb (quoI .i64 i8 4) 8) (bd (if (sb .i64 24 (ml .i64 8 (remI i8 4))) < 0 then none else some (.int .u32 (shrI .u32 (d10.at (quoI .i64 i8 4).toNat).i (sb .i64 24 (ml .i64 8 (remI i8 4))).toNat))) fun r13 => (cond (inb i8 32) (rec ⟨(ad .i64 i8 1), d9, d10, d11, (D.agg (d12.parts.set i8.toNat (D.int .u8 (cv .u8 r13.i))))⟩) none)) none) (K (.e0 i8 d9 d10 d11 d12)))
def lv8 : S8 → List Leaf
  | ⟨i8, d9, d10, d11, d12⟩ => [.i i8, .d d9, .d d10, .d d11, .d d12]
def of8 : List Leaf → Option S8
  | [.i i8, .d d9, .d d10, .d d11, .d d12] => some ⟨i8, d9, d10, d11, d12⟩
  | _ => none
def ex8 (k : Kont) : X8 → Option D
  | .e0 i8 d9 d10 d11 d12 => k (.exit 2) (us 2 ((.ptr 0 [] (.array 32 5)) :: ((.ptr 1 [] (.array 8 165)) :: (us 2 ((.ptr 3 [] (.array 32 5)) :: (us 17 ((.d (.int .i64) (di i8)) :: ((.d .bool (db (ltI i8 32))) :: (us 15 []))))))))) [(.var (.array 32 5) (.d (.array 32 5) d9)), (.var (.array 8 165) (.d (.array 8 165) d10)), (.var (.array 64 165) (.d (.array 64 165) d11)), (.var (.array 32 5) (.d (.array 32 5) d12))]
def ps8 : List PV := (up 2 ((.ptr 0 [] (.array 32 5)) :: ((.ptr 1 [] (.array 8 165)) :: (up 2 ((.ptr 3 [] (.array 32 5)) :: (up 17 ((.d (.int .i64) (.int .i64)) :: (up 16 []))))))))
def qs8 : List PO := [(.var (.array 32 5) (.d (.array 32 5) .x)), (.var (.array 8 165) (.d (.array 8 165) .x)), (.var (.array 64 165) (.d (.array 64 165) .x)), (.var (.array 32 5) (.d (.array 32 5) .x))]
noncomputable def sum8 (M : Nat) : Sum := sumS [2, 3, 6, 24] ps8 qs8 [] of8 (st8 M) ex8 M
theorem sok8 (M : Nat) : SumOk (loopRd (e M) 112 8) (e M) (call (e M) 11) 112 0 (loopAt (e M) 112 8) (sum8 M) :=
  sumOk_st (T := tblOf (t112_1 M)) (n0 := 4) (lv := lv8) (t112_1_ok M) (by kernel_rfl) rfl (by intro ls s h; unfold of8 at h; (repeat' split at h) <;> simp at h; subst h; rfl) (by intro s; kernel_rfl) (by intro s; kernel_rfl) (by intro s nx k; kernel_rfl)
noncomputable def t112_2 (M : Nat) : List Ent := ⟨112, 11, 0, 8, sum8 M⟩ :: t112_1 M
theorem t112_2_ok (M : Nat) : AllOk (e M) (tblOf (t112_2 M)) := (t112_1_ok M).add ⟨112, 11, 0, 8, sum8 M⟩ (by kernel_rfl) (sok8 M)
def s (M : Nat) (p0 : ByteArray) : Option D :=
  (bd (F117.s FUEL) fun r1 => (bd (F118.s FUEL p0) fun r2 => (goS (st3 M) M ⟨r2, (da (rp 32 (D.int .u8 0))), (r1.at 0), (r1.at 1)⟩ fun x => match x with | .e0 d3 d4 d5 d6 => (goS (st8 M) M ⟨0, d4, d5, d6, (da (rp 32 (D.int .u8 0)))⟩ fun x => match x with | .e0 i8 d9 d10 d11 d12 => (some d12)))))
theorem run (M : Nat) (p0 : ByteArray) : callS (e M) (tblOf (t112_2 M)) 12 (.fn 112) [.d .str (dS p0)] [] (fun v H => finish ty [36] v H) = s M p0 := by kernel_rfl
noncomputable abbrev t (M : Nat) : List Ent := t112_2 M
theorem t_ok (M : Nat) : AllOk (e M) (tblOf (t M)) := t112_2_ok M
def c : Con := { run := fun ds => match ds with | [p0] => s FUEL p0.s | _ => none, fresh := false, plain := true }
theorem fun_at : Tryd.prog.funcs[112]? = some Tryd.f112 := by kernel_rfl
theorem params : Tryd.f112.params.toList.map ty = [.str] := by kernel_rfl
theorem results : Tryd.f112.resultTypes.toList = [36] := by kernel_rfl
theorem flat : Tryd.f112.resultTypes.toList.all (fun t => K.flat ty 20 (ty t)) = true := by kernel_rfl
theorem ok : ConOk (112, c) := by
  intro fn hfn
  obtain rfl : Tryd.f112 = fn := Option.some.inj (fun_at.symm.trans hfn)
  refine contract_flat (n := 20) hgl (fun _ => flat) (fun ds r hh0 hr => ?_)
  rw [params] at hh0
  obtain ⟨p0, ds0, rfl, h0, hh1⟩ := hass_cons hh0
  obtain ⟨p0, rfl⟩ := has_str h0
  obtain rfl := hass_nil hh1
  refine ⟨e FUEL, DEPTH, tblOf (t FUEL), envOk (allCons F117.ok (allCons F118.ok (allCons F119.ok allNil))) allNil, rfl, t_ok FUEL, ?_⟩
  rw [params, results]
  exact (run FUEL p0).trans hr
end F112
namespace F107
def cons : List (Nat × Con) := [(112, F112.c)]
def exts : List (Nat × Ext) := []
def h : List (Nat × Nat × Hint) := []
noncomputable def e (M : Nat) : Env := env cons exts h M
noncomputable def t107_0 (_ : Nat) : List Ent := []
theorem t107_0_ok (M : Nat) : AllOk (e M) (tblOf (t107_0 M)) := AllOk.nil
def s (M : Nat) (p0 : D) (p1 : D) : Option D :=
  (cond (eqI (p1.at 0).i 1) (some (da [(p1.at 0), (p0.at 0), (dS (bs [])), (di 0), (di (nI (p1.at 2).s.size)), (da (rp 32 (D.int .u8 0)))])) (cond (eqI (p1.at 0).i 2) (bd (F112.s FUEL (p0.at 2).s) fun r1 => (some (da [(p1.at 0), (p0.at 0), (dS (bs [])), (p1.at 3), (di (nI (p0.at 2).s.size)), r1]))) (cond (eqI (p1.at 0).i 3) (some (da [(p1.at 0), (p0.at 0), (dS (bs [])), (p1.at 3), (di 0), (da (rp 32 (D.int .u8 0)))])) (cond (eqI (p1.at 0).i 4) (cond (eqI (p1.at 0).i 4) (some (da [(p1.at 0), (p0.at 0), (p1.at 2), (di 0), (di 0), (da (rp 32 (D.int .u8 0)))])) (some (da [(p1.at 0), (p0.at 0), (dS (bs [])), (di 0), (di 0), (da (rp 32 (D.int .u8 0)))]))) (cond (eqI (p1.at 0).i 5) (some (da [(p1.at 0), (p0.at 0), (p1.at 2), (di 0), (di 0), (da (rp 32 (D.int .u8 0)))])) (some (da [(p1.at 0), (p0.at 0), (dS (bs [])), (di 0), (di 0), (da (rp 32 (D.int .u8 0)))])))))))
theorem run (M : Nat) (p0 : D) (p1 : D) : callS (e M) (tblOf (t107_0 M)) 12 (.fn 107) [.d (.struct [3, 9, 9, 4, 3, 40]) p0, .d (.struct [34, 9, 9, 3, 3, 3]) p1] [] (fun v H => finish ty [38] v H) = s M p0 p1 := by kernel_rfl
noncomputable abbrev t (M : Nat) : List Ent := t107_0 M
theorem t_ok (M : Nat) : AllOk (e M) (tblOf (t M)) := t107_0_ok M
def c : Con := { run := fun ds => match ds with | [p0, p1] => s FUEL p0 p1 | _ => none, fresh := false, plain := true }
theorem fun_at : Tryd.prog.funcs[107]? = some Tryd.f107 := by kernel_rfl
theorem params : Tryd.f107.params.toList.map ty = [(.struct [3, 9, 9, 4, 3, 40]), (.struct [34, 9, 9, 3, 3, 3])] := by kernel_rfl
theorem results : Tryd.f107.resultTypes.toList = [38] := by kernel_rfl
theorem flat : Tryd.f107.resultTypes.toList.all (fun t => K.flat ty 20 (ty t)) = true := by kernel_rfl
theorem ok : ConOk (107, c) := by
  intro fn hfn
  obtain rfl : Tryd.f107 = fn := Option.some.inj (fun_at.symm.trans hfn)
  refine contract_flat (n := 20) hgl (fun _ => flat) (fun ds r hh0 hr => ?_)
  rw [params] at hh0
  obtain ⟨p0, ds0, rfl, h0, hh1⟩ := hass_cons hh0
  obtain ⟨p1, ds1, rfl, h1, hh2⟩ := hass_cons hh1
  obtain rfl := hass_nil hh2
  refine ⟨e FUEL, DEPTH, tblOf (t FUEL), envOk (allCons F112.ok allNil) allNil, rfl, t_ok FUEL, ?_⟩
  rw [params, results]
  exact (run FUEL p0 p1).trans hr
end F107
namespace F93
def cons : List (Nat × Con) := [(44, F44.c), (58, F58.c), (61, F61.c), (63, F63.c), (65, F65.c), (106, F106.c), (107, F107.c), (111, F111.c)]
def exts : List (Nat × Ext) := []
def h : List (Nat × Nat × Hint) := []
noncomputable def e (M : Nat) : Env := env cons exts h M
noncomputable def t93_0 (_ : Nat) : List Ent := []
theorem t93_0_ok (M : Nat) : AllOk (e M) (tblOf (t93_0 M)) := AllOk.nil
def s (M : Nat) (p0 : D) (p1 : D) (p2 : Int) : Option D :=
  (cond (eqI (p1.at 0).i 1) (cond (eqI (p1.at 0).i 0) (some (D.tup [p0, (da [(di 0), (di 0), (dS (bs [])), (di 0), (di 0), (da (rp 32 (D.int .u8 0)))]), (di 4)])) (cond (eqI (p1.at 0).i 6) none (bd (F111.s FUEL p0 (p1.at 2).s) fun r1 => (cond (neI (r1.at 1).i 0) (some (D.tup [p0, (da [(di 0), (di 0), (dS (bs [])), (di 0), (di 0), (da (rp 32 (D.int .u8 0)))]), (r1.at 1)])) (bd (F107.s FUEL p0 p1) fun r2 => (some (D.tup [(r1.at 0), r2, (di 0)]))))))) (cond (eqI (p1.at 0).i 4) (cond (eqI (p1.at 0).i 0) (some (D.tup [p0, (da [(di 0), (di 0), (dS (bs [])), (di 0), (di 0), (da (rp 32 (D.int .u8 0)))]), (di 4)])) (cond (eqI (p1.at 0).i 6) none (bd (F63.s FUEL p0 (p1.at 2).s) fun r3 => (cond (neI (r3.at 1).i 0) (some (D.tup [p0, (da [(di 0), (di 0), (dS (bs [])), (di 0), (di 0), (da (rp 32 (D.int .u8 0)))]), (r3.at 1)])) (bd (F107.s FUEL p0 p1) fun r4 => (some (D.tup [(r3.at 0), r4, (di 0)]))))))) (cond (eqI (p1.at 0).i 5) (cond (eqI (p1.at 0).i 0) (some (D.tup [p0, (da [(di 0), (di 0), (dS (bs [])), (di 0), (di 0), (da (rp 32 (D.int .u8 0)))]), (di 4)])) (cond (eqI (p1.at 0).i 6) none (bd (F65.s FUEL p0 (p1.at 2).s) fun r5 => (cond (neI (r5.at 1).i 0) (some (D.tup [p0, (da [(di 0), (di 0), (dS (bs [])), (di 0), (di 0), (da (rp 32 (D.int .u8 0)))]), (r5.at 1)])) (bd (F107.s FUEL p0 p1) fun r6 => (some (D.tup [(r5.at 0), r6, (di 0)]))))))) (cond (eqI (p1.at 0).i 2) (cond (eqI (p1.at 0).i 0) (some (D.tup [p0, (da [(di 0), (di 0), (dS (bs [])), (di 0), (di 0), (da (rp 32 (D.int .u8 0)))]), (di 4)])) (cond (eqI (p1.at 0).i 6) none (bd (F58.s FUEL p0 (p1.at 3).i) fun r7 => (cond (neI (r7.at 1).i 0) (some (D.tup [p0, (da [(di 0), (di 0), (dS (bs [])), (di 0), (di 0), (da (rp 32 (D.int .u8 0)))]), (r7.at 1)])) (bd (F107.s FUEL p0 p1) fun r8 => (some (D.tup [(r7.at 0), r8, (di 0)]))))))) (cond (eqI (p1.at 0).i 3) (cond (eqI (p1.at 0).i 0) (some (D.tup [p0, (da [(di 0), (di 0), (dS (bs [])), (di 0), (di 0), (da (rp 32 (D.int .u8 0)))]), (di 4)])) (cond (eqI (p1.at 0).i 6) none (bd (F61.s FUEL p0 (p1.at 3).i) fun r9 => (cond (neI (r9.at 1).i 0) (some (D.tup [p0, (da [(di 0), (di 0), (dS (bs [])), (di 0), (di 0), (da (rp 32 (D.int .u8 0)))]), (r9.at 1)])) (bd (F107.s FUEL p0 p1) fun r10 => (some (D.tup [(r9.at 0), r10, (di 0)]))))))) (cond (eqI (p1.at 0).i 6) (cond (eqI (p1.at 0).i 0) (some (D.tup [p0, (da [(di 0), (di 0), (dS (bs [])), (di 0), (di 0), (da (rp 32 (D.int .u8 0)))]), (di 4)])) (cond (eqI (p1.at 0).i 6) (bd (F44.s FUEL p0 p2) fun r11 => (cond (neI r11.i 0) (some (D.tup [p0, (da [(di 0), (di 0), (dS (bs [])), (di 0), (di 0), (da (rp 32 (D.int .u8 0)))]), r11])) (bd (F107.s FUEL p0 p1) fun r12 => (some (D.tup [(da [(di 0), (dS (bs [])), (dS (bs [])), (db false), (di 0), (dl false [])]), r12, (di 0)]))))) none)) (cond (eqI (p1.at 0).i 0) (some (D.tup [p0, (da [(di 0), (di 0), (dS (bs [])), (di 0), (di 0), (da (rp 32 (D.int .u8 0)))]), (di 4)])) (some (D.tup [p0, (da [(di 0), (di 0), (dS (bs [])), (di 0), (di 0), (da (rp 32 (D.int .u8 0)))]), (di 1)])))))))))
theorem run (M : Nat) (p0 : D) (p1 : D) (p2 : Int) : callS (e M) (tblOf (t93_0 M)) 12 (.fn 93) [.d (.struct [3, 9, 9, 4, 3, 40]) p0, .d (.struct [34, 9, 9, 3, 3, 3]) p1, .d (.int .i64) (di p2)] [] (fun v H => finish ty [42, 38, 28] v H) = s M p0 p1 p2 := by kernel_rfl
noncomputable abbrev t (M : Nat) : List Ent := t93_0 M
theorem t_ok (M : Nat) : AllOk (e M) (tblOf (t M)) := t93_0_ok M
def c : Con := { run := fun ds => match ds with | [p0, p1, p2] => s FUEL p0 p1 p2.i | _ => none, fresh := false, plain := false }
theorem fun_at : Tryd.prog.funcs[93]? = some Tryd.f93 := by kernel_rfl
theorem params : Tryd.f93.params.toList.map ty = [(.struct [3, 9, 9, 4, 3, 40]), (.struct [34, 9, 9, 3, 3, 3]), (.int .i64)] := by kernel_rfl
theorem results : Tryd.f93.resultTypes.toList = [42, 38, 28] := by kernel_rfl
theorem ok : ConOk (93, c) := by
  intro fn hfn
  obtain rfl : Tryd.f93 = fn := Option.some.inj (fun_at.symm.trans hfn)
  refine contract_flat (n := 20) hgl (fun h => by simp at h) (fun ds r hh0 hr => ?_)
  rw [params] at hh0
  obtain ⟨p0, ds0, rfl, h0, hh1⟩ := hass_cons hh0
  obtain ⟨p1, ds1, rfl, h1, hh2⟩ := hass_cons hh1
  obtain ⟨p2, ds2, rfl, h2, hh3⟩ := hass_cons hh2
  obtain ⟨p2, rfl⟩ := has_int h2
  obtain rfl := hass_nil hh3
  refine ⟨e FUEL, DEPTH, tblOf (t FUEL), envOk (allCons F44.ok (allCons F58.ok (allCons F61.ok (allCons F63.ok (allCons F65.ok (allCons F106.ok (allCons F107.ok (allCons F111.ok allNil)))))))) allNil, rfl, t_ok FUEL, ?_⟩
  rw [params, results]
  exact (run FUEL p0 p1 p2).trans hr
end F93
namespace F95
def cons : List (Nat × Con) := []
def exts : List (Nat × Ext) := []
def h : List (Nat × Nat × Hint) := []
noncomputable def e (M : Nat) : Env := env cons exts h M
noncomputable def t95_0 (_ : Nat) : List Ent := []
theorem t95_0_ok (M : Nat) : AllOk (e M) (tblOf (t95_0 M)) := AllOk.nil
def s (M : Nat) (p0 : Int) (p1 : Int) : Option D :=
  (some (di (maxi p0 (mini (maxi p1 0) 1099511627776))))
theorem run (M : Nat) (p0 : Int) (p1 : Int) : callS (e M) (tblOf (t95_0 M)) 12 (.fn 95) [.d (.int .i64) (di p0), .d (.int .i64) (di p1)] [] (fun v H => finish ty [3] v H) = s M p0 p1 := by kernel_rfl
noncomputable abbrev t (M : Nat) : List Ent := t95_0 M
theorem t_ok (M : Nat) : AllOk (e M) (tblOf (t M)) := t95_0_ok M
def c : Con := { run := fun ds => match ds with | [p0, p1] => s FUEL p0.i p1.i | _ => none, fresh := false, plain := true }
theorem fun_at : Tryd.prog.funcs[95]? = some Tryd.f95 := by kernel_rfl
theorem params : Tryd.f95.params.toList.map ty = [(.int .i64), (.int .i64)] := by kernel_rfl
theorem results : Tryd.f95.resultTypes.toList = [3] := by kernel_rfl
theorem flat : Tryd.f95.resultTypes.toList.all (fun t => K.flat ty 20 (ty t)) = true := by kernel_rfl
theorem ok : ConOk (95, c) := by
  intro fn hfn
  obtain rfl : Tryd.f95 = fn := Option.some.inj (fun_at.symm.trans hfn)
  refine contract_flat (n := 20) hgl (fun _ => flat) (fun ds r hh0 hr => ?_)
  rw [params] at hh0
  obtain ⟨p0, ds0, rfl, h0, hh1⟩ := hass_cons hh0
  obtain ⟨p0, rfl⟩ := has_int h0
  obtain ⟨p1, ds1, rfl, h1, hh2⟩ := hass_cons hh1
  obtain ⟨p1, rfl⟩ := has_int h1
  obtain rfl := hass_nil hh2
  refine ⟨e FUEL, DEPTH, tblOf (t FUEL), envOk allNil allNil, rfl, t_ok FUEL, ?_⟩
  rw [params, results]
  exact (run FUEL p0 p1).trans hr
end F95
namespace F24
def cons : List (Nat × Con) := [(44, F44.c)]
def exts : List (Nat × Ext) := []
def h : List (Nat × Nat × Hint) := [(24, 4, { live := [5], rows := [], own := false, inpl := false }), (75, 1, { live := [0, 2, 6, 7, 8], rows := [(1048576, 3)], own := false, inpl := false })]
noncomputable def e (M : Nat) : Env := env cons exts h M
noncomputable def t24_0 (_ : Nat) : List Ent := []
theorem t24_0_ok (M : Nat) : AllOk (e M) (tblOf (t24_0 M)) := AllOk.nil
structure S75_1 where
  d1 : D
  i2 : Int
  i3 : Int
  n4 : Nat
  n5 : Nat
  d6 : D
  i7 : Int
  b8 : Bool
  l9 : (List D)
inductive X75_1 where
  | e0 (d1 : D) (i2 : Int) (i3 : Int) (n4 : Nat) (n5 : Nat) (d6 : D) (i7 : Int) (b8 : Bool) (l9 : (List D))
def st75_1 (M : Nat) : S75_1 → (S75_1 → Option D) → (X75_1 → Option D) → Option D
  | ⟨d1, i2, i3, n4, n5, d6, i7, b8, l9⟩, rec, K => (cond (ltI i3 i2) (cond (inb i3 d1.elems.length) (bd (F44.s FUEL (ix d1.elems i3.toNat) i7) fun r10 => (cond (eqI r10.i 0) (cond (mx (n5 + 1)) (rec ⟨d1, i2, (ad .i64 i3 1), 0, (n5 + 1), d6, i7, (b8 || true), (ap ((l9.drop n4).take n5) [((ix d1.elems i3.toNat).at 0)])⟩) none) (rec ⟨d1, i2, (ad .i64 i3 1), n4, n5, d6, i7, b8, l9⟩))) none) (K (.e0 d1 i2 i3 n4 n5 d6 i7 b8 l9)))
def lv75_1 : S75_1 → List Leaf
  | ⟨d1, i2, i3, n4, n5, d6, i7, b8, l9⟩ => [.d d1, .i i2, .i i3, .n n4, .n n5, .d d6, .i i7, .b b8, .l l9]
def of75_1 : List Leaf → Option S75_1
  | [.d d1, .i i2, .i i3, .n n4, .n n5, .d d6, .i i7, .b b8, .l l9] => some ⟨d1, i2, i3, n4, n5, d6, i7, b8, l9⟩
  | _ => none
def ex75_1 (k : Kont) : X75_1 → Option D
  | .e0 d1 i2 i3 n4 n5 d6 i7 b8 l9 => k (.exit 0) ((.yield 3) :: (us 1 ((.ptr 2 [] (.int .i64)) :: (us 3 ((.d (.slice 42) d1) :: ((.d (.int .i64) (di i2)) :: ((.d (.int .i64) (di i3)) :: ((.d .bool (db (ltI i3 i2))) :: (us 13 []))))))))) [(.var (.slice 3) (.sref 4 n4 n5)), (.var (.slice 42) (.d (.slice 42) d6)), (.var (.int .i64) (.d (.int .i64) (di i7))), (.loop .ready 24 4 (.tup (us 5 ((.ptr 0 [] (.slice 3)) :: (us 11 []))))), (.row 3 true b8 l9)]
def ps75_1 : List PV := ((.yield 3) :: (up 1 ((.ptr 2 [] (.int .i64)) :: (up 3 ((.d (.slice 42) .x) :: ((.d (.int .i64) (.int .i64)) :: ((.d (.int .i64) (.int .i64)) :: (up 14 []))))))))
def qs75_1 : List PO := [(.var (.slice 3) (.sref 4)), (.var (.slice 42) (.d (.slice 42) .x)), (.var (.int .i64) (.d (.int .i64) (.int .i64))), (.loop false 24 4 (.tup (up 5 ((.ptr 0 [] (.slice 3)) :: (up 11 []))))), (.row 3 true)]
noncomputable def sum75_1 (M : Nat) : Sum := sumS [0, 2, 6, 7, 8] ps75_1 qs75_1 [(1048576, 4)] of75_1 (st75_1 M) ex75_1 M
theorem sok75_1 (M : Nat) : SumOk (loopRd (e M) 75 1) (e M) (call (e M) 10) 75 4 (loopAt (e M) 75 1) (sum75_1 M) :=
  sumOk_st (T := tblOf (t24_0 M)) (n0 := 5) (lv := lv75_1) (t24_0_ok M) (by kernel_rfl) rfl (by intro ls s h; unfold of75_1 at h; (repeat' split at h) <;> simp at h; subst h; rfl) (by intro s; kernel_rfl) (by intro s; kernel_rfl) (by intro s nx k; kernel_rfl)
noncomputable def t24_1 (M : Nat) : List Ent := ⟨75, 10, 4, 1, sum75_1 M⟩ :: t24_0 M
theorem t24_1_ok (M : Nat) : AllOk (e M) (tblOf (t24_1 M)) := (t24_0_ok M).add ⟨75, 10, 4, 1, sum75_1 M⟩ (by kernel_rfl) (sok75_1 M)
def s (M : Nat) (p0 : D) (p1 : Int) : Option D :=
  (goS (st75_1 M) M ⟨p0, (nI p0.elems.length), 0, 0, 0, p0, p1, false, []⟩ fun x => match x with | .e0 d1 i2 i3 n4 n5 d6 i7 b8 l9 => (cond ((decide (n5 = l9.length)) && (decide (n4 = 0))) (some (.slice b8 l9)) none))
theorem run (M : Nat) (p0 : D) (p1 : Int) : callS (e M) (tblOf (t24_1 M)) 12 (.fn 24) [.d (.slice 42) p0, .d (.int .i64) (di p1)] [] (fun v H => finishFresh ty [64] v H) = s M p0 p1 := by kernel_rfl
noncomputable abbrev t (M : Nat) : List Ent := t24_1 M
theorem t_ok (M : Nat) : AllOk (e M) (tblOf (t M)) := t24_1_ok M
def c : Con := { run := fun ds => match ds with | [p0, p1] => s FUEL p0 p1.i | _ => none, fresh := true, plain := false }
theorem fun_at : Tryd.prog.funcs[24]? = some Tryd.f24 := by kernel_rfl
theorem params : Tryd.f24.params.toList.map ty = [(.slice 42), (.int .i64)] := by kernel_rfl
theorem results : Tryd.f24.resultTypes.toList = [64] := by kernel_rfl
theorem ok : ConOk (24, c) := by
  intro fn hfn
  obtain rfl : Tryd.f24 = fn := Option.some.inj (fun_at.symm.trans hfn)
  refine contract_of_fresh hgl rfl rfl (fun ds r hh0 hr => ?_)
  rw [params] at hh0
  obtain ⟨p0, ds0, rfl, h0, hh1⟩ := hass_cons hh0
  obtain ⟨p1, ds1, rfl, h1, hh2⟩ := hass_cons hh1
  obtain ⟨p1, rfl⟩ := has_int h1
  obtain rfl := hass_nil hh2
  refine ⟨e FUEL, DEPTH, tblOf (t FUEL), envOk (allCons F44.ok allNil) allNil, rfl, t_ok FUEL, ?_⟩
  rw [params, results]
  exact (run FUEL p0 p1).trans hr
end F24
namespace F98
def cons : List (Nat × Con) := []
def exts : List (Nat × Ext) := []
def h : List (Nat × Nat × Hint) := []
noncomputable def e (M : Nat) : Env := env cons exts h M
noncomputable def t98_0 (_ : Nat) : List Ent := []
theorem t98_0_ok (M : Nat) : AllOk (e M) (tblOf (t98_0 M)) := AllOk.nil
def s (M : Nat) (p0 : D) (p1 : Int) (p2 : Int) : Option D :=
  (cond (ltI p1 0) (some (D.tup [(dS (bs [])), (di 1)])) (cond (ltI p2 p1) (some (D.tup [(dS (bs [])), (di 1)])) (cond (gtI p2 (nI (p0.at 2).s.size)) (some (D.tup [(dS (bs [])), (di 1)])) (cond ((leI 0 p1) && (leI p1 p2) && (leI p2 (nI (p0.at 2).s.size)) && (leI (nI (p0.at 2).s.size) (nI (p0.at 2).s.size))) (some (D.tup [(dS ((p0.at 2).s.extract p1.toNat p2.toNat)), (di 0)])) none))))
theorem run (M : Nat) (p0 : D) (p1 : Int) (p2 : Int) : callS (e M) (tblOf (t98_0 M)) 12 (.fn 98) [.d (.struct [3, 9, 9, 4, 3, 40]) p0, .d (.int .i64) (di p1), .d (.int .i64) (di p2)] [] (fun v H => finish ty [9, 28] v H) = s M p0 p1 p2 := by kernel_rfl
noncomputable abbrev t (M : Nat) : List Ent := t98_0 M
theorem t_ok (M : Nat) : AllOk (e M) (tblOf (t M)) := t98_0_ok M
def c : Con := { run := fun ds => match ds with | [p0, p1, p2] => s FUEL p0 p1.i p2.i | _ => none, fresh := false, plain := true }
theorem fun_at : Tryd.prog.funcs[98]? = some Tryd.f98 := by kernel_rfl
theorem params : Tryd.f98.params.toList.map ty = [(.struct [3, 9, 9, 4, 3, 40]), (.int .i64), (.int .i64)] := by kernel_rfl
theorem results : Tryd.f98.resultTypes.toList = [9, 28] := by kernel_rfl
theorem flat : Tryd.f98.resultTypes.toList.all (fun t => K.flat ty 20 (ty t)) = true := by kernel_rfl
theorem ok : ConOk (98, c) := by
  intro fn hfn
  obtain rfl : Tryd.f98 = fn := Option.some.inj (fun_at.symm.trans hfn)
  refine contract_flat (n := 20) hgl (fun _ => flat) (fun ds r hh0 hr => ?_)
  rw [params] at hh0
  obtain ⟨p0, ds0, rfl, h0, hh1⟩ := hass_cons hh0
  obtain ⟨p1, ds1, rfl, h1, hh2⟩ := hass_cons hh1
  obtain ⟨p1, rfl⟩ := has_int h1
  obtain ⟨p2, ds2, rfl, h2, hh3⟩ := hass_cons hh2
  obtain ⟨p2, rfl⟩ := has_int h2
  obtain rfl := hass_nil hh3
  refine ⟨e FUEL, DEPTH, tblOf (t FUEL), envOk allNil allNil, rfl, t_ok FUEL, ?_⟩
  rw [params, results]
  exact (run FUEL p0 p1 p2).trans hr
end F98
namespace F99
def cons : List (Nat × Con) := []
def exts : List (Nat × Ext) := []
def h : List (Nat × Nat × Hint) := []
noncomputable def e (M : Nat) : Env := env cons exts h M
noncomputable def t99_0 (_ : Nat) : List Ent := []
theorem t99_0_ok (M : Nat) : AllOk (e M) (tblOf (t99_0 M)) := AllOk.nil
def s (M : Nat) (p0 : D) : Option D :=
  (some (D.agg (p0.parts.set 2 (dS (bs [])))))
theorem run (M : Nat) (p0 : D) : callS (e M) (tblOf (t99_0 M)) 12 (.fn 99) [.d (.struct [3, 9, 9, 4, 3, 40]) p0] [] (fun v H => finish ty [42] v H) = s M p0 := by kernel_rfl
noncomputable abbrev t (M : Nat) : List Ent := t99_0 M
theorem t_ok (M : Nat) : AllOk (e M) (tblOf (t M)) := t99_0_ok M
def c : Con := { run := fun ds => match ds with | [p0] => s FUEL p0 | _ => none, fresh := false, plain := false }
theorem fun_at : Tryd.prog.funcs[99]? = some Tryd.f99 := by kernel_rfl
theorem params : Tryd.f99.params.toList.map ty = [(.struct [3, 9, 9, 4, 3, 40])] := by kernel_rfl
theorem results : Tryd.f99.resultTypes.toList = [42] := by kernel_rfl
theorem ok : ConOk (99, c) := by
  intro fn hfn
  obtain rfl : Tryd.f99 = fn := Option.some.inj (fun_at.symm.trans hfn)
  refine contract_flat (n := 20) hgl (fun h => by simp at h) (fun ds r hh0 hr => ?_)
  rw [params] at hh0
  obtain ⟨p0, ds0, rfl, h0, hh1⟩ := hass_cons hh0
  obtain rfl := hass_nil hh1
  refine ⟨e FUEL, DEPTH, tblOf (t FUEL), envOk allNil allNil, rfl, t_ok FUEL, ?_⟩
  rw [params, results]
  exact (run FUEL p0).trans hr
end F99
namespace F101
def cons : List (Nat × Con) := [(77, F77.c)]
def exts : List (Nat × Ext) := []
def h : List (Nat × Nat × Hint) := []
noncomputable def e (M : Nat) : Env := env cons exts h M
noncomputable def t101_0 (_ : Nat) : List Ent := []
theorem t101_0_ok (M : Nat) : AllOk (e M) (tblOf (t101_0 M)) := AllOk.nil
def s (M : Nat) (p0 : ByteArray) (p1 : ByteArray) : Option D :=
  (bd (F77.s FUEL p0 p1) fun r1 => (cond r1.b (some (di (-1))) (bd (F77.s FUEL p1 p0) fun r2 => (cond r2.b (some (di 1)) (some (di 0))))))
theorem run (M : Nat) (p0 : ByteArray) (p1 : ByteArray) : callS (e M) (tblOf (t101_0 M)) 12 (.fn 101) [.d .str (dS p0), .d .str (dS p1)] [] (fun v H => finish ty [3] v H) = s M p0 p1 := by kernel_rfl
noncomputable abbrev t (M : Nat) : List Ent := t101_0 M
theorem t_ok (M : Nat) : AllOk (e M) (tblOf (t M)) := t101_0_ok M
def c : Con := { run := fun ds => match ds with | [p0, p1] => s FUEL p0.s p1.s | _ => none, fresh := false, plain := true }
theorem fun_at : Tryd.prog.funcs[101]? = some Tryd.f101 := by kernel_rfl
theorem params : Tryd.f101.params.toList.map ty = [.str, .str] := by kernel_rfl
theorem results : Tryd.f101.resultTypes.toList = [3] := by kernel_rfl
theorem flat : Tryd.f101.resultTypes.toList.all (fun t => K.flat ty 20 (ty t)) = true := by kernel_rfl
theorem ok : ConOk (101, c) := by
  intro fn hfn
  obtain rfl : Tryd.f101 = fn := Option.some.inj (fun_at.symm.trans hfn)
  refine contract_flat (n := 20) hgl (fun _ => flat) (fun ds r hh0 hr => ?_)
  rw [params] at hh0
  obtain ⟨p0, ds0, rfl, h0, hh1⟩ := hass_cons hh0
  obtain ⟨p0, rfl⟩ := has_str h0
  obtain ⟨p1, ds1, rfl, h1, hh2⟩ := hass_cons hh1
  obtain ⟨p1, rfl⟩ := has_str h1
  obtain rfl := hass_nil hh2
  refine ⟨e FUEL, DEPTH, tblOf (t FUEL), envOk (allCons F77.ok allNil) allNil, rfl, t_ok FUEL, ?_⟩
  rw [params, results]
  exact (run FUEL p0 p1).trans hr
end F101
end Go.AM.SD
namespace Go.AM.SD
open Go Go.AM
theorem bd_some {x : D} {f : D → Option D} : bd (some x) f = f x := rfl
def w32 (l : List Int) : D := da (l.map (D.int .u32))
theorem w32_set (l : List Int) (i : Nat) (x : Int) : D.agg ((w32 l).parts.set i (D.int .u32 x)) = w32 (l.set i x) := by
  show D.agg ((l.map (D.int .u32)).set i (D.int .u32 x)) = _
  rw [w32, List.map_set]
theorem u64_nonneg (n : Int) : 0 ≤ IntKind.wrap .u64 n := by
  simp [IntKind.wrap, IntKind.signed, IntKind.bits]; omega
theorem right_spec (x n : Int) : ∃ r, F125.s FUEL x n = some (D.int .u32 r) := by
  have h1 : 0 ≤ andI .u64 (cv .u64 (sb .i64 0 n)) 31 := u64_nonneg _
  have h2 : 0 ≤ sb .u64 32 (andI .u64 (cv .u64 (sb .i64 0 n)) 31) := u64_nonneg _
  refine ⟨orI .u32 (shlI .u32 x (andI .u64 (cv .u64 (sb .i64 0 n)) 31).toNat) (shrI .u32 x (sb .u64 32 (andI .u64 (cv .u64 (sb .i64 0 n)) 31)).toNat), ?_⟩
  unfold F125.s F128.s
  rw [if_neg (by omega), if_neg (by omega)]
  rfl
theorem ml64 {a b : Int} (h1 : -9223372036854775808 ≤ a * b) (h2 : a * b ≤ 9223372036854775807) : ml .i64 a b = a * b := by
  have := ad64 (a := a * b) (b := 0) (by omega) (by omega)
  simpa [ad, ml] using this
theorem words_spec (s : ByteArray) (hs : s.size = 64) : ∃ w : List Int, F124.s FUEL s = some (w32 w) ∧ w.length = 64 := by
  unfold F124.s
  refine goS_rule (fun t => ∃ (k : Nat) (d3 : D) (w : List Int), t = ⟨s, (k : Int), d3, w32 w⟩ ∧ k ≤ 64 ∧ w.length = 64) (fun t => 64 - t.i2.toNat) (fun o => ∃ w : List Int, o = some (w32 w) ∧ w.length = 64) ?_ _ _ ⟨0, _, List.replicate 64 0, by rfl, by omega, by simp⟩ (by simp [FUEL])
  rintro _ rec ⟨k, d3, w, rfl, hk, hw⟩ hrec
  simp only [F124.st3]
  by_cases h1 : k < 64
  · rw [show cond (ltI (k : Int) 64) _ _ = _ from ct (by simp; omega) rfl]
    have hadd : ad .i64 (k : Int) 1 = ((k + 1 : Nat) : Int) := by rw [ad64 (by omega) (by omega)]; rfl
    have fin : ∀ x : Int, ∃ w' : List Int, rec ⟨s, ad .i64 (k : Int) 1, d3, D.agg ((w32 w).parts.set (Int.toNat (k : Int)) (D.int .u32 x))⟩ = some (w32 w') ∧ w'.length = 64 := by
      intro x
      rw [hadd, w32_set]
      exact hrec _ ⟨k + 1, d3, _, rfl, by omega, by simpa using hw⟩ (by simp; omega)
    by_cases h2 : k < 16
    · have hm : ml .i64 4 (k : Int) = ((4 * k : Nat) : Int) := by rw [ml64 (by omega) (by omega)]; omega
      have ha : ∀ j : Nat, j ≤ 3 → ad .i64 ((4 * k : Nat) : Int) (j : Int) = ((4 * k + j : Nat) : Int) := fun j hj => by rw [ad64 (by omega) (by omega)]; omega
      rw [show cond (ltI (k : Int) 16) _ _ = _ from ct (by simp; omega) rfl]
      rw [hm, show (1 : Int) = ((1 : Nat) : Int) from rfl, show (2 : Int) = ((2 : Nat) : Int) from rfl, show (3 : Int) = ((3 : Nat) : Int) from rfl, ha 1 (by omega), ha 2 (by omega), ha 3 (by omega)]
      rw [show cond (inb ((4 * k : Nat) : Int) s.size) _ _ = _ from ct (by simp; omega) rfl, show cond (inb ((4 * k + 1 : Nat) : Int) s.size) _ _ = _ from ct (by simp; omega) rfl, show cond (inb ((4 * k + 2 : Nat) : Int) s.size) _ _ = _ from ct (by simp; omega) rfl, show cond (inb ((4 * k + 3 : Nat) : Int) s.size) _ _ = _ from ct (by simp; omega) rfl, show cond (inb (k : Int) 64) _ _ = _ from ct (by simp; omega) rfl]
      exact fin _
    · have hs15 : sb .i64 (k : Int) 15 = ((k - 15 : Nat) : Int) := by rw [sb64 (by omega) (by omega)]; omega
      have hs2 : sb .i64 (k : Int) 2 = ((k - 2 : Nat) : Int) := by rw [sb64 (by omega) (by omega)]; omega
      have hs16 : sb .i64 (k : Int) 16 = ((k - 16 : Nat) : Int) := by rw [sb64 (by omega) (by omega)]; omega
      have hs7 : sb .i64 (k : Int) 7 = ((k - 7 : Nat) : Int) := by rw [sb64 (by omega) (by omega)]; omega
      obtain ⟨r5, e5⟩ := right_spec ((w32 w).at (sb .i64 (k : Int) 15).toNat).i 7
      obtain ⟨r6, e6⟩ := right_spec ((w32 w).at (sb .i64 (k : Int) 15).toNat).i 18
      obtain ⟨r7, e7⟩ := right_spec ((w32 w).at (sb .i64 (k : Int) 2).toNat).i 17
      obtain ⟨r8, e8⟩ := right_spec ((w32 w).at (sb .i64 (k : Int) 2).toNat).i 19
      rw [show cond (ltI (k : Int) 16) _ _ = _ from cf (by simp; omega) rfl]
      rw [show cond (inb (sb .i64 (k : Int) 15) 64) _ _ = _ from ct (by rw [hs15]; simp; omega) rfl, show cond (inb (sb .i64 (k : Int) 2) 64) _ _ = _ from ct (by rw [hs2]; simp; omega) rfl, show cond (inb (sb .i64 (k : Int) 16) 64) _ _ = _ from ct (by rw [hs16]; simp; omega) rfl]
      rw [e5, bd_some, e6, bd_some, show cond (inb (sb .i64 (k : Int) 7) 64) _ _ = _ from ct (by rw [hs7]; simp; omega) rfl, e7, bd_some, e8, bd_some, show cond (inb (k : Int) 64) _ _ = _ from ct (by simp; omega) rfl]
      exact fin _
  · rw [show cond (ltI (k : Int) 64) _ _ = _ from cf (by simp; omega) rfl]
    exact ⟨w, rfl, hw⟩
theorem mix_spec (h k : List Int) (s : ByteArray) (hh : h.length = 8) (hs : s.size = 64) : ∃ h' : List Int, F119.s FUEL (w32 h) (w32 k) s = some (w32 h') ∧ h'.length = 8 := by
  unfold F119.s
  obtain ⟨w, hw, hwl⟩ := words_spec s hs
  rw [show cond (Nat.beq (w32 h).parts.length 8) _ _ = _ from ct (by simp [w32, hh]) rfl, hw]
  rw [bd_some]
  refine goS_rule (fun t : F119.S3 => ∃ (j : Nat) (i6 i7 i8 i9 i10 i11 i12 i13 : Int) (b14 : Bool) (l : List D), t = ⟨w32 w, (j : Int), w32 h, w32 k, i6, i7, i8, i9, i10, i11, i12, i13, b14, l⟩ ∧ j ≤ 64 ∧ l.length = 8) (fun t => 64 - t.i3.toNat) (fun o => ∃ h' : List Int, o = some (w32 h') ∧ h'.length = 8) ?_ _ _ ⟨0, 0, 0, 0, 0, 0, 0, 0, 0, true, _, rfl, by omega, by simp [w32, hh]⟩ (by simp [FUEL])
  rintro _ rec ⟨j, i6, i7, i8, i9, i10, i11, i12, i13, b14, l, rfl, hj, hl⟩ hrec
  simp only [F119.st3]
  by_cases h1 : j < 64
  · rw [show cond (ltI (j : Int) 64) _ _ = _ from ct (by simp; omega) rfl, show ∀ a : Option D, cond (inb (j : Int) 64) a none = a from fun a => ct (by simp; omega) rfl]
    obtain ⟨r1, e1⟩ := right_spec (ix l 4).i 6
    obtain ⟨r2, e2⟩ := right_spec (ix l 4).i 11
    obtain ⟨r3, e3⟩ := right_spec (ix l 4).i 25
    obtain ⟨r4, e4⟩ := right_spec (ix l 0).i 2
    obtain ⟨r5, e5⟩ := right_spec (ix l 0).i 13
    obtain ⟨r6, e6⟩ := right_spec (ix l 0).i 22
    have hc : (true && true && true && (Nat.beq l.length 8)) = true := by simp [hl]
    have hc2 : ∀ a : Option D, cond (inb (j : Int) 64) a none = a := fun a => ct (by simp; omega) rfl
    rw [e1, bd_some, e2, bd_some, e3, bd_some, hc2, e4, bd_some, e5, bd_some, e6, bd_some, hc, cond_true, cond_true]
    have hadd : ad .i64 (j : Int) 1 = ((j + 1 : Nat) : Int) := by rw [ad64 (by omega) (by omega)]; rfl
    rw [hadd]
    refine hrec _ ⟨j + 1, i6, i7, i8, i9, i10, i11, i12, i13, b14, _, rfl, by omega, ?_⟩ ?_
    · simp [ap, hl]
    · simp; omega
  · rw [show cond (ltI (j : Int) 64) _ _ = _ from cf (by simp; omega) rfl]
    refine goS_rule (fun t : F119.S13 => ∃ (m : Nat) (d24 : D) (i25 i26 i27 i28 i29 i30 i31 i32 : Int) (b33 : Bool) (l34 : List D) (h : List Int), t = ⟨(m : Int), w32 h, d24, i25, i26, i27, i28, i29, i30, i31, i32, b33, l34⟩ ∧ m ≤ 8 ∧ h.length = 8) (fun t => 8 - t.i22.toNat) (fun o => ∃ h' : List Int, o = some (w32 h') ∧ h'.length = 8) ?_ _ _ ⟨0, _, i6, i7, i8, i9, i10, i11, i12, i13, b14, l, h, rfl, by omega, hh⟩ (by simp [FUEL])
    rintro _ rec2 ⟨m, d24, i25, i26, i27, i28, i29, i30, i31, i32, b33, l34, g, rfl, hm, hg⟩ hrec2
    simp only [F119.st13]
    by_cases h2 : m < 8
    · have hc : ∀ a : Option D, cond (inb (m : Int) 8) a none = a := fun a => ct (by simp; omega) rfl
      rw [show cond (ltI (m : Int) 8) _ _ = _ from ct (by simp; omega) rfl, hc, hc, hc, w32_set]
      have hadd : ad .i64 (m : Int) 1 = ((m + 1 : Nat) : Int) := by rw [ad64 (by omega) (by omega)]; rfl
      rw [hadd]
      exact hrec2 _ ⟨m + 1, d24, i25, i26, i27, i28, i29, i30, i31, i32, b33, l34, _, rfl, by omega, by simpa using hg⟩ (by simp; omega)
    · rw [show cond (ltI (m : Int) 8) _ _ = _ from cf (by simp; omega) rfl]
      exact ⟨g, rfl, hg⟩
theorem tmod_nat (a b : Nat) : remI (nI a) (b : Int) = ((a % b : Nat) : Int) := by
  simp [remI, nI]; rfl
theorem ofBytes_size (l : List D) : (ofBytes l).size = l.length := by
  simp [ofBytes, ByteArray.size]
theorem bytesOf_len (s : ByteArray) : (bytesOf s).length = s.size := by simp [bytesOf]
theorem pad_spec (b : ByteArray) (hb : b.size ≤ 1000000) : ∃ t, F118.s FUEL b = some (dS t) ∧ t.size % 64 = 0 ∧ t.size ≤ b.size + 72 := by
  unfold F118.s
  rw [show cond (mx b.size) _ _ = _ from ct (by simp; omega) rfl, show cond (mx (b.size + 1)) _ _ = _ from ct (by simp; omega) rfl]
  refine goS_rule (fun t : F118.S2 => ∃ (l : List D) (b4 : Bool), t = ⟨b, 0, l.length, b4, l⟩ ∧ l.length ≤ b.size + 64 ∧ (l.length % 64 = 56 ∨ l.length + (120 - l.length % 64) % 64 ≤ b.size + 64)) (fun t => (120 - t.n3 % 64) % 64) (fun o => ∃ t, o = some (dS t) ∧ t.size % 64 = 0 ∧ t.size ≤ b.size + 72) ?_ _ _ ⟨ap (((bytesOf b).drop 0).take b.size) [D.int .u8 128], true, ?_, ?_, ?_⟩ (by simp [FUEL]; omega)
  · rintro _ rec ⟨l, b4, rfl, hl, hl2⟩ hrec
    simp only [F118.st2]
    have hrem := tmod_nat l.length 64
    rw [show ((64 : Nat) : Int) = 64 from rfl] at hrem
    rw [hrem]
    by_cases h1 : l.length % 64 = 56
    · rw [show cond (neI ((l.length % 64 : Nat) : Int) 56) _ _ = _ from cf (by simp; omega) rfl]
      refine goS_rule (fun t : F118.S6 => ∃ (m : List D) (i8 : Int) (k : Nat) (b10 : Bool), t = ⟨0, m.length, i8, (k : Int) - 1, b10, m⟩ ∧ k ≤ 8 ∧ m.length = l.length + (8 - k)) (fun t => (t.i9 + 1).toNat) (fun o => ∃ t, o = some (dS t) ∧ t.size % 64 = 0 ∧ t.size ≤ b.size + 72) ?_ _ _ ⟨l, _, 8, b4, rfl, by omega, by omega⟩ (by simp [FUEL])
      rintro _ rec2 ⟨m, i8, k, b10, rfl, hk, hm⟩ hrec2
      simp only [F118.st6]
      by_cases h2 : 1 ≤ k
      · have hml : ml .i64 8 ((k : Int) - 1) = 8 * ((k : Int) - 1) := by rw [ml64 (by omega) (by omega)]
        rw [show cond (geI ((k : Int) - 1) 0) _ _ = _ from ct (by simp; omega) rfl, hml, if_neg (by omega)]
        rw [bd_some]
        rw [show cond (mx (m.length + 1)) _ _ = _ from ct (by simp; omega) rfl]
        have step : ∀ (x : D) (bb : Bool), ∃ t, rec2 ⟨0, m.length + 1, i8, sb .i64 ((k : Int) - 1) 1, bb, ap ((m.drop 0).take m.length) [x]⟩ = some (dS t) ∧ t.size % 64 = 0 ∧ t.size ≤ b.size + 72 := by
          intro x bb
          have e1 : (ap ((m.drop 0).take m.length) [x]).length = m.length + 1 := by simp [ap]
          have e2 : sb .i64 ((k : Int) - 1) 1 = ((k - 1 : Nat) : Int) - 1 := by rw [sb64 (by omega) (by omega)]; omega
          refine hrec2 _ ⟨ap ((m.drop 0).take m.length) [x], i8, k - 1, bb, by rw [e1, e2], by omega, by omega⟩ ?_
          rw [e2]; dsimp only; omega
        exact step _ _
      · rw [show cond (geI ((k : Int) - 1) 0) _ _ = _ from cf (by simp; omega) rfl]
        refine ⟨_, rfl, ?_, ?_⟩
        · rw [ofBytes_size]; simp; omega
        · rw [ofBytes_size]; simp; omega
    · rw [show cond (neI ((l.length % 64 : Nat) : Int) 56) _ _ = _ from ct (by simp; omega) rfl, show cond (mx (l.length + 1)) _ _ = _ from ct (by simp; omega) rfl]
      have step : ∀ (x : D) (bb : Bool), ∃ t, rec ⟨b, 0, l.length + 1, bb, ap ((l.drop 0).take l.length) [x]⟩ = some (dS t) ∧ t.size % 64 = 0 ∧ t.size ≤ b.size + 72 := by
        intro x bb
        have e1 : (ap ((l.drop 0).take l.length) [x]).length = l.length + 1 := by simp [ap]
        refine hrec _ ⟨ap ((l.drop 0).take l.length) [x], bb, by rw [e1], by omega, by omega⟩ ?_
        dsimp only; omega
      exact step _ _
  · rw [F118.S2.mk.injEq]
    refine ⟨rfl, rfl, ?_, rfl, rfl⟩
    simp [ap, bytesOf_len]
  · simp [ap, bytesOf_len]
  · simp [ap, bytesOf_len]; omega
def H0 : List Int := [1779033703, 3144134277, 1013904242, 2773480762, 1359893119, 2600822924, 528734635, 1541459225]
def K0 : List Int := [1116352408, 1899447441, 3049323471, 3921009573, 961987163, 1508970993, 2453635748, 2870763221,
  3624381080, 310598401, 607225278, 1426881987, 1925078388, 2162078206, 2614888103, 3248222580,
  3835390401, 4022224774, 264347078, 604807628, 770255983, 1249150122, 1555081692, 1996064986,
  2554220882, 2821834349, 2952996808, 3210313671, 3336571891, 3584528711, 113926993, 338241895,
  666307205, 773529912, 1294757372, 1396182291, 1695183700, 1986661051, 2177026350, 2456956037,
  2730485921, 2820302411, 3259730800, 3345764771, 3516065817, 3600352804, 4094571909, 275423344,
  430227734, 506948616, 659060556, 883997877, 958139571, 1322822218, 1537002063, 1747873779,
  1955562222, 2024104815, 2227730452, 2361852424, 2428436474, 2756734187, 3204031479, 3329325298]
end Go.AM.SD
namespace Go.AM.SD
open Go Go.AM
set_option maxRecDepth 1000000 in
theorem const_spec : F117.s FUEL = some (.tup [w32 H0, w32 K0]) := by kernel_rfl
end Go.AM.SD
namespace Go.AM.SD
open Go Go.AM
theorem quo4 (k : Nat) (hk : k < 32) : quoI .i64 (k : Int) 4 = ((k / 4 : Nat) : Int) := by
  have h1 : (k : Int).tdiv 4 = ((k / 4 : Nat) : Int) := rfl
  unfold quoI
  rw [h1]
  have := ad64 (a := ((k / 4 : Nat) : Int)) (b := 0) (by omega) (by omega)
  simpa [ad] using this
theorem of_spec_ex (b : ByteArray) (hb : b.size ≤ 1000000) : ∃ l : List Int, F112.s FUEL b = some (sumD l) ∧ l.length = 32 := by
  unfold F112.s
  obtain ⟨t, ht, h1, h2⟩ := pad_spec b hb
  rw [const_spec, bd_some, ht, bd_some]
  refine goS_rule (fun s : F112.S3 => ∃ (t : ByteArray) (d : D) (h : List Int), s = ⟨dS t, d, w32 h, w32 K0⟩ ∧ t.size % 64 = 0 ∧ t.size ≤ b.size + 72 ∧ h.length = 8) (fun s => s.d3.s.size) (fun o => ∃ l : List Int, o = some (sumD l) ∧ l.length = 32) ?_ _ _ ⟨t, _, H0, rfl, h1, h2, rfl⟩ (by simp [FUEL]; omega)
  rintro _ rec ⟨t, d, h, rfl, h1, h2, h3⟩ hrec
  simp only [F112.st3]
  have hds : (dS t).s = t := rfl
  rw [hds]
  by_cases h0 : 0 < t.size
  · have h64 : 64 ≤ t.size := by omega
    rw [show cond (gtI (nI t.size) 0) _ _ = _ from ct (by simp; omega) rfl, show (true && true && (leI 64 (nI t.size)) && (leI (nI t.size) (nI t.size))) = true from by simp; omega,
      show (true && (leI 64 (nI t.size)) && (leI (nI t.size) (nI t.size)) && (leI (nI t.size) (nI t.size))) = true from by simp; omega, cond_true]
    obtain ⟨h', e1, e2⟩ := mix_spec h K0 (t.extract 0 64) h3 (by simp; omega)
    rw [e1, bd_some, cond_true]
    refine hrec _ ⟨t.extract 64 t.size, d, h', rfl, ?_, ?_, e2⟩ ?_
    · simp; omega
    · simp; omega
    · simp; omega
  · rw [show cond (gtI (nI t.size) 0) _ _ = _ from cf (by simp only [gtI_f, nI_eq]; omega) rfl]
    refine goS_rule (fun s : F112.S8 => ∃ (k : Nat) (d9 d11 : D) (l : List Int), s = ⟨(k : Int), d9, w32 h, d11, sumD l⟩ ∧ k ≤ 32 ∧ l.length = 32) (fun s => 32 - s.i8.toNat) (fun o => ∃ l : List Int, o = some (sumD l) ∧ l.length = 32) ?_ _ _ ⟨0, _, _, zeros, rfl, by omega, rfl⟩ (by simp [FUEL])
    rintro _ rec2 ⟨k, d9, d11, l, rfl, hk, hl⟩ hrec2
    simp only [F112.st8]
    by_cases hk2 : k < 32
    · have hadd : ad .i64 (k : Int) 1 = ((k + 1 : Nat) : Int) := by rw [ad64 (by omega) (by omega)]; rfl
      have hrem := tmod_nat k 4
      rw [show ((4 : Nat) : Int) = 4 from rfl, nI_eq] at hrem
      have hml : ml .i64 8 ((k % 4 : Nat) : Int) = ((8 * (k % 4) : Nat) : Int) := by rw [ml64 (by omega) (by omega)]; omega
      have hsb : sb .i64 24 ((8 * (k % 4) : Nat) : Int) = ((24 - 8 * (k % 4) : Nat) : Int) := by rw [sb64 (by omega) (by omega)]; omega
      rw [show cond (ltI (k : Int) 32) _ _ = _ from ct (by simp; omega) rfl, quo4 k hk2, hrem, hml, hsb, show cond (inb ((k / 4 : Nat) : Int) 8) _ _ = _ from ct (by simp; omega) rfl, if_neg (by omega)]
      rw [bd_some]
      rw [show cond (inb (k : Int) 32) _ _ = _ from ct (by simp; omega) rfl, hadd]
      have step : ∀ x : Int, ∃ l' : List Int, rec2 ⟨((k + 1 : Nat) : Int), d9, w32 h, d11, D.agg ((sumD l).parts.set (Int.toNat (k : Int)) (D.int .u8 x))⟩ = some (sumD l') ∧ l'.length = 32 := by
        intro x
        have e : D.agg ((sumD l).parts.set (Int.toNat (k : Int)) (D.int .u8 x)) = sumD (l.set k x) := by
          unfold sumD
          rw [List.map_set]
          rfl
        rw [e]
        exact hrec2 _ ⟨k + 1, d9, d11, l.set k x, rfl, by omega, by simpa using hl⟩ (by simp; omega)
      exact step _
    · rw [show cond (ltI (k : Int) 32) _ _ = _ from cf (by simp; omega) rfl]
      exact ⟨l, rfl, hl⟩
def shaL (b : ByteArray) : List Int := match F112.s FUEL b with
  | some (.agg ds) => if ds.length = 32 then ds.map D.i else zeros
  | _ => zeros
theorem sha_spec (b : ByteArray) (hb : b.size ≤ 1000000) : F112.s FUEL b = some (sumD (shaL b)) := by
  obtain ⟨l, h1, h2⟩ := of_spec_ex b hb
  have : shaL b = l := by
    unfold shaL
    rw [h1]
    simp only [sumD]
    rw [if_pos (by simpa using h2), List.map_map]
    have : D.i ∘ D.int IntKind.u8 = id := rfl
    rw [this, List.map_id]
  rw [this, h1]
end Go.AM.SD
namespace Go.AM.SD
open Go Go.AM
theorem wrong_spec (e : Int) : F37.s FUEL e = some (wrongA e).enc := rfl
theorem find_specM (s : St) (n : ByteArray) (hl : s.files.length ≤ 1048576) : F21.s FUEL s.enc n = some (di (findI (fun f : Fl => decide (f.name = n)) s.files)) := by
  unfold F21.s
  have h0 : s.enc.at 0 = dl s.nn (s.files.map Fl.enc) := rfl
  rw [h0]
  refine goS_rule (fun t : F21.S38_2 => ∃ k : Nat, t = ⟨dl s.nn (s.files.map Fl.enc), nI s.files.length, (k : Int), s.enc, n⟩ ∧ k ≤ s.files.length ∧ ∀ i (h : i < s.files.length), i < k → decide (s.files[i].name = n) = false) (fun t => s.files.length - t.i3.toNat) (fun o => o = some (di (findI (fun f : Fl => decide (f.name = n)) s.files))) ?_ _ _ ⟨0, by simp, by omega, by omega⟩ (by simp [FUEL]; omega)
  rintro _ rec ⟨k, rfl, hk, hs⟩ hrec
  simp only [F21.st38_2]
  by_cases h1 : k < s.files.length
  · refine ct (by simp; omega) (ct (by simp; omega) ?_)
    simp only [elems_slice, Int.toNat_natCast, ix_map h1]
    by_cases h2 : s.files[k].name = n
    · refine ct (by show eqS s.files[k].name n = true; simpa using h2) ?_
      rw [findI, findIdx_some_of h1 hs (by simpa using h2)]
    · refine cf (by show eqS s.files[k].name n = false; simpa using h2) (hrec _ ⟨k + 1, ?_, by omega, ?_⟩ ?_)
      · rw [ad64 (by omega) (by omega)]; rfl
      · intro i hi hik
        by_cases hik' : i = k
        · subst hik'; simpa using h2
        · exact hs i hi (by omega)
      · rw [ad64 (by omega) (by omega)]; simp; omega
  · refine cf (by simp; omega) ?_
    rw [findI, findIdx_none_of (fun i hi => hs i hi (by omega))]
theorem numbered_spec (n : Int) : F76.s FUEL n = some (db (decide (1 ≤ n) && decide (n ≤ 1099511627776))) := by
  unfold F76.s
  by_cases h : 1 ≤ n
  · exact ct (by simpa using h) (by simp [h, leI])
  · exact cf (by simp; omega) (by simp [h])
theorem new_spec (id : Int) (s : ByteArray) (hs : s.size ≤ 1048576) : F91.s FUEL id s = some (.tup [(newF id s).1.enc, di (newF id s).2]) := by
  unfold F91.s newF
  refine bdS (name_spec s hs) ?_
  cases hv : nameB s with
  | false => exact ct rfl rfl
  | true =>
    refine cf rfl (bdS (numbered_spec id) ?_)
    by_cases h : 1 ≤ id ∧ id ≤ 1099511627776
    · rw [if_neg (by simp), if_pos h]
      exact cf (by simp [h.1, h.2]) rfl
    · rw [if_neg (by simp), if_neg h]
      exact ct (by simp; omega) rfl
theorem clone_files (nn : Bool) (l : List D) (h : nn = false → l = []) (hl : l.length ≤ 1073741824) : F92.s FUEL (dl nn l) = some (dl nn l) := by
  unfold F92.s
  cases nn with
  | false => rw [h rfl]; rfl
  | true => exact cf rfl (ct (by simpa using hl) (ct (by simp) rfl))
theorem append_spec (f : Fl) (s : ByteArray) (hf : f.data.size ≤ 1000000) (hs : s.size ≤ 1000000) : F111.s FUEL f.enc s = some (.tup [(appendF f s).1.enc, di (appendF f s).2]) := by
  unfold F111.s appendF
  have h3 : (f.enc.at 3).b = f.sealed := rfl
  have h2 : (f.enc.at 2).s = f.data := rfl
  rw [h3, h2]
  by_cases hse : f.sealed = true
  · rw [if_pos hse]; exact ct hse rfl
  · refine cf (by simpa using hse) ?_
    rw [if_neg hse]
    by_cases h0 : s = bs []
    · rw [if_pos h0]; exact ct (by simpa using h0) (by subst h0; rfl)
    rw [if_neg h0]
    refine cf (by simpa using h0) ?_
    have ha : ad .i64 (nI f.data.size) (nI s.size) = ((f.data.size + s.size : Nat) : Int) := by rw [nI_eq, nI_eq, ad64 (by omega) (by omega)]; omega
    rw [ha]
    by_cases h1 : 600 < f.data.size + s.size
    · rw [if_pos h1]; exact ct (by simp; omega) rfl
    · rw [if_neg h1]
      refine cf (by simp; omega) (bdS (x := dS (f.data ++ s)) ?_ rfl)
      unfold cat
      rw [if_pos (by have : (1000000000000 : Nat) ≤ maxInt := by decide
                     omega)]
theorem read_spec (f : Fl) (a b : Int) : F98.s FUEL f.enc a b = some (.tup [dS (readF f a b).1, di (readF f a b).2]) := by
  unfold F98.s readF
  have h2 : (f.enc.at 2).s = f.data := rfl
  rw [h2]
  by_cases h0 : a < 0
  · rw [if_pos h0]; exact ct (by simpa using h0) rfl
  rw [if_neg h0]
  refine cf (by simp; omega) ?_
  by_cases h1 : b < a
  · rw [if_pos h1]; exact ct (by simpa using h1) rfl
  rw [if_neg h1]
  refine cf (by simp; omega) ?_
  by_cases h3 : (f.data.size : Int) < b
  · rw [if_pos h3]; exact ct (by simpa using h3) rfl
  rw [if_neg h3]
  exact cf (by simp; omega) (ct (by simp; omega) rfl)
theorem meta_spec (f : Fl) : F99.s FUEL f.enc = some (metaF f).enc := rfl
theorem floor_spec (a b : Int) : F95.s FUEL a b = some (di (floorN a b)) := by
  unfold F95.s floorN maxi mini
  congr 2
  repeat' split
  all_goals omega
theorem tell_spec (f : Fl) (o : Mo) (hf : f.data.size ≤ 1000000) : F107.s FUEL f.enc o.enc = some (tellE shaL f o).enc := by
  unfold F107.s tellE
  have h0 : (o.enc.at 0).i = o.kind := rfl
  have hd : (f.enc.at 2).s = f.data := rfl
  rw [h0, hd]
  by_cases h1 : o.kind = 1
  · refine ct (by simpa using h1) ?_
    simp only [h1]
    have : o.enc.at 0 = di 1 := by rw [← h1]; rfl
    rw [this]
    rfl
  refine cf (by simpa using h1) ?_
  by_cases h2 : o.kind = 2
  · refine ct (by simpa using h2) (bdS (sha_spec f.data hf) ?_)
    have e1 : (if o.kind = 4 ∨ o.kind = 5 then o.text else bs []) = bs [] := if_neg (by omega)
    have e2 : (if o.kind = 2 ∨ o.kind = 3 then o.time else 0) = o.time := if_pos (by omega)
    have e3 : (if o.kind = 1 then (o.text.size : Int) else if o.kind = 2 then (f.data.size : Int) else 0) = (f.data.size : Int) := by rw [if_neg h1, if_pos h2]
    have e4 : (if o.kind = 2 then shaL f.data else zeros) = shaL f.data := if_pos h2
    rw [e1, e2, e3, e4]
    generalize shaL f.data = L
    rfl
  refine cf (by simpa using h2) ?_
  by_cases h3 : o.kind = 3
  · refine ct (by simpa using h3) ?_
    simp only [h3]
    have : o.enc.at 0 = di 3 := by rw [← h3]; rfl
    rw [this]
    rfl
  refine cf (by simpa using h3) ?_
  by_cases h4 : o.kind = 4
  · refine ct (by simpa using h4) (ct (by simpa using h4) ?_)
    simp only [h4]
    have : o.enc.at 0 = di 4 := by rw [← h4]; rfl
    rw [this]
    rfl
  refine cf (by simpa using h4) ?_
  by_cases h5 : o.kind = 5
  · refine ct (by simpa using h5) ?_
    simp only [h5]
    have : o.enc.at 0 = di 5 := by rw [← h5]; rfl
    rw [this]
    rfl
  · refine cf (by simpa using h5) ?_
    have e1 : (if o.kind = 4 ∨ o.kind = 5 then o.text else bs []) = bs [] := if_neg (by omega)
    have e2 : (if o.kind = 2 ∨ o.kind = 3 then o.time else 0) = 0 := if_neg (by omega)
    have e3 : (if o.kind = 1 then (o.text.size : Int) else if o.kind = 2 then (f.data.size : Int) else 0) = 0 := by rw [if_neg h1, if_neg h2]
    have e4 : (if o.kind = 2 then shaL f.data else zeros) = zeros := if_neg h2
    rw [e1, e2, e3, e4]
    rfl
theorem fileDo_spec (f : Fl) (o : Mo) (floor last : Int) (hf : FlOk f last) (ho : MoOk o) : F93.s FUEL f.enc o.enc floor = some (.tup [(fileDo shaL f o floor).1.enc, (fileDo shaL f o floor).2.1.enc, di (fileDo shaL f o floor).2.2]) := by
  have hd := hf.data
  have ht := ho.text
  have htell := tell_spec f o (by omega)
  unfold F93.s fileDo
  have h0 : (o.enc.at 0).i = o.kind := rfl
  rw [h0]
  have fin : ∀ (r : Fl × Int), (bd (some (D.tup [r.1.enc, di r.2])) fun r1 => (cond (neI (r1.at 1).i 0) (some (D.tup [f.enc, (da [(di 0), (di 0), (dS (bs [])), (di 0), (di 0), (da (rp 32 (D.int .u8 0)))]), (r1.at 1)])) (bd (F107.s FUEL f.enc o.enc) fun r2 => (some (D.tup [(r1.at 0), r2, (di 0)]))))) =
      some (.tup [(if r.2 = 0 then (r.1, tellE shaL f o, (0 : Int)) else (f, zeroEv, r.2)).1.enc, (if r.2 = 0 then (r.1, tellE shaL f o, (0 : Int)) else (f, zeroEv, r.2)).2.1.enc, di (if r.2 = 0 then (r.1, tellE shaL f o, (0 : Int)) else (f, zeroEv, r.2)).2.2]) := by
    intro r
    rw [bd_some]
    by_cases h : r.2 = 0
    · rw [if_pos h]
      exact cf (by show neI r.2 0 = false; simpa using h) (bdS htell rfl)
    · rw [if_neg h]
      exact ct (by show neI r.2 0 = true; simpa using h) rfl
  by_cases h1 : o.kind = 1
  · refine ct (by simpa using h1) (cf (by simp [h1]) (cf (by simp [h1]) ?_))
    have hR : deedF f o floor = appendF f o.text := by unfold deedF; simp [h1]
    rw [hR, show F111.s FUEL f.enc (o.enc.at 2).s = _ from append_spec f o.text (by omega) (by omega)]
    exact fin _
  refine cf (by simpa using h1) ?_
  by_cases h4 : o.kind = 4
  · refine ct (by simpa using h4) (cf (by simp [h4]) (cf (by simp [h4]) ?_))
    have hR : deedF f o floor = holdF f o.text := by unfold deedF; simp [h4]
    rw [hR, show F63.s FUEL f.enc (o.enc.at 2).s = _ from hold_spec f o.text (by omega) (by have := hf.hold; omega) (fun x hx => by have := hf.hsz x hx; omega) hf.nil]
    exact fin _
  refine cf (by simpa using h4) ?_
  by_cases h5 : o.kind = 5
  · refine ct (by simpa using h5) (cf (by simp [h5]) (cf (by simp [h5]) ?_))
    have hR : deedF f o floor = releaseF f o.text := by unfold deedF; simp [h5]
    rw [hR, show F65.s FUEL f.enc (o.enc.at 2).s = _ from release_spec f o.text (by have := hf.hold; omega) hf.nil]
    exact fin _
  refine cf (by simpa using h5) ?_
  by_cases h2 : o.kind = 2
  · refine ct (by simpa using h2) (cf (by simp [h2]) (cf (by simp [h2]) ?_))
    have hR : deedF f o floor = sealF f o.time := by unfold deedF; simp [h2]
    rw [hR, show F58.s FUEL f.enc (o.enc.at 3).i = _ from seal_spec f o.time]
    exact fin _
  refine cf (by simpa using h2) ?_
  by_cases h3 : o.kind = 3
  · refine ct (by simpa using h3) (cf (by simp [h3]) (cf (by simp [h3]) ?_))
    have hR : deedF f o floor = extendF f o.time := by unfold deedF; simp [h3]
    rw [hR, show F61.s FUEL f.enc (o.enc.at 3).i = _ from extend_spec f o.time]
    exact fin _
  refine cf (by simpa using h3) ?_
  by_cases h6 : o.kind = 6
  · refine ct (by simpa using h6) (cf (by simp [h6]) (ct (by simpa using h6) ?_))
    have hR : deedF f o floor = (zeroF, mayN f floor) := by unfold deedF; simp [h6]
    rw [hR]
    refine bdS (may_spec f floor) ?_
    by_cases h : mayN f floor = 0
    · rw [if_pos h]
      exact cf (by show neI (mayN f floor) 0 = false; simpa using h) (bdS htell rfl)
    · rw [if_neg h]
      exact ct (by show neI (mayN f floor) 0 = true; simpa using h) rfl
  refine cf (by simpa using h6) ?_
  by_cases h0 : o.kind = 0
  · have hR : deedF f o floor = (f, 4) := by unfold deedF; simp [h0]
    rw [hR]
    exact ct (by simpa using h0) rfl
  · have hR : deedF f o floor = (f, 1) := by unfold deedF; simp [h0, h1, h2, h3, h4, h5, h6]
    rw [hR]
    exact cf (by simpa using h0) rfl
end Go.AM.SD
