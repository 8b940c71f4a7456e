/- Part 5 of the proof: the abstract machine, what the functions compute, and plain laws over that. -/
import Derived.Test.YtonknblidjpfeaaSt4
import Derived.OrdersIn
import Derived.LoopNIn
import Derived.RangeFuncRecord
import Derived.RangeFuncCalls
set_option linter.all false
set_option linter.unusedSimpArgs false
set_option linter.unusedVariables false
set_option linter.unusedSectionVars false
namespace Go.AM
open Go Go.RowKit
section
variable {P : Program} {ty : Nat → K}
def ResRep (ty : Nat → K) (M : Mem) (ts : List Nat) (r : D) (v : Value) : Prop :=
  match ts with
  | [t] => Rep ty M r (ty t) v
  | ts => ∃ ds xs, r = .tup ds ∧ v = .tuple xs ∧ Each ty M ds (ts.map ty) xs.toList
def FreshRep (P : Program) (ty : Nat → K) (X : List Nat) (w w' : World) (ts : List Nat) (r : D) (v : Value) : Prop :=
  (∃ t a e es blk ms, ts = [t] ∧ ty t = .map a e ∧ r = .slice true (es.map fun p : D × D => .tup [p.1, p.2]) ∧ v = .map (some blk) ∧ w.heap.size ≤ blk ∧ w'.heap[blk]? = some (.map ms es.length) ∧
    Entries ty (memOf w' (X ++ [blk])) (ty a) (ty e) 0 es ms.toList) ∨
  ∃ t e nn ds, ts = [t] ∧ ty t = .slice e ∧ r = .slice nn ds ∧
    ((ds = [] ∧ ∃ a, v = .slice a 0 0 ∧ a.isSome = nn) ∨
     (nn = true ∧ ∃ blk base cap cs et fz pre mid post, w.heap.size ≤ blk ∧ v = .slice (some ⟨blk, base, none⟩) ds.length cap ∧ w'.heap[blk]? = some (.cells cs et fz) ∧ cs.toList = pre ++ mid ++ post ∧ pre.length = base ∧
       Reps ty (memOf w' (X ++ [blk])) ds (List.replicate ds.length (ty e)) mid ∧ (ds.length ≤ cap ∧ cap ≤ maxInt) ∧ (cap - ds.length) * P.cellsOf e ≤ post.length ∧ (∀ o, o < cs.size + slk (ty e) → ¬ (fz.1 ≤ o ∧ o < fz.2)) ∧ etRow ty et e cs.size))
def Contract (P : Program) (ty : Nat → K) (I : World → Prop) (f : Nat) (fn : Func) (c : Con) : Prop :=
  ∀ (X : List Nat) (w : World) (ds : List D) (xs : List Value) (r : D), I w → (∀ b ∈ X, b < w.heap.size) → Each ty (memOf w X) ds (fn.params.toList.map ty) xs → c.run ds = some r →
    Calls P f xs.toArray w fun e w' => ∃ v, e = .returned v ∧ Below w.heap.size w w' ∧
      (if c.plain = true then ∀ M, ResRep ty M fn.resultTypes.toList r v else if c.fresh = true then FreshRep P ty X w w' fn.resultTypes.toList r v else ResRep ty (memOf w' X) fn.resultTypes.toList r v)
def ExtOk (P : Program) (ty : Nat → K) (I : World → Prop) (gl f : Nat) (x : Ext) : Prop :=
  ∀ (cd : Cd) (X : List Nat) (B0 : Nat) (w0 : World) (μ : List Loc) (H : List AObj) (w : World) (args : List V) (v : V) (H' : List AObj) (xs : List Value), I w → gl ≤ B0 → HOk ty P.cellsOf cd X B0 w0 μ H w → RVt ty P.cellsOf (M_ X μ H w) μ args xs →
    x args H = some (true, v, H') → Calls P f xs.toArray w fun e w' => ∃ y μ', e = .returned y ∧ HOk ty P.cellsOf cd X B0 w0 μ' H' w' ∧ RR ty P.cellsOf (M_ X μ' H' w') μ' v y ∧ Fut X B0 μ.length μ H w μ' H' w'
def PrimOk (P : Program) (ty : Nat → K) (f : Nat) (p : List D → Option D) : Prop :=
  ∀ (fn : Func) (M : Mem) (ds : List D) (xs : List Value) (r : D) (w : World), P.funcs[f]? = some fn → Each ty M ds (fn.params.toList.map ty) xs → p ds = some r →
    ∃ v, (callFunc f xs.toArray).run P w = .ok (.value v) w ∧ ∀ M', ResRep ty M' fn.resultTypes.toList r v
structure EnvOk (P : Program) (E : Env) (I : World → Prop) (gl : Nat) : Prop where
  ty : TyOk P E.ty
  fn : ∀ f fn, E.fn f = some fn → P.funcs[f]? = some fn ∧ (fn.name == "runtime.NumGoroutine") = false
  con : ∀ f c fn, E.con f = some c → E.fn f = some fn → Contract P E.ty I f fn c
  keep : ∀ w w', Below gl w w' → I w → I w'
  mixed : P.follows .mixedOrders = true
  ext : ∀ f x, E.ext f = some x → ExtOk P E.ty I gl f x
  rounds : ∀ f fn, E.fn f = some fn → roundsOk fn = true
  prim : ∀ f p, E.prim f = some p → PrimOk P E.ty f p
theorem resV_ok {M : Mem} {μ : List Loc} {ts : List Nat} {r : D} {v : Value} (h : ResRep ty M ts r v) : RR ty P.cellsOf M μ (resV ty ts r) v := by
  unfold ResRep at h
  unfold resV
  split at h
  · rename_i t
    exact .inr ⟨ty t, by simp only [RV]; exact ⟨trivial, h⟩⟩
  · rename_i hne
    split
    · exact absurd rfl (hne _)
    · obtain ⟨ds, xs, rfl, rfl, hE⟩ := h
      exact .inr ⟨.bad, by simp only [RV]; exact ⟨trivial, ds, xs, rfl, rfl, hE⟩⟩
variable {cd : Cd} {X : List Nat} {B0 : Nat} {w0 : World}
theorem freeze_ok {μ : List Loc} {w : World} : ∀ (bs : List Nat) {H : List AObj}, HOk ty P.cellsOf cd X B0 w0 μ H w →
    HOk ty P.cellsOf cd X B0 w0 μ (bs.foldl freeze1 H) w ∧ Fut X B0 μ.length μ H w μ (bs.foldl freeze1 H) w ∧ (bs.foldl freeze1 H).length = H.length
  | [], H, h => ⟨h, Fut.refl h, rfl⟩
  | b :: bs, H, h => by
    simp only [List.foldl_cons]
    have h1 : HOk ty P.cellsOf cd X B0 w0 μ (freeze1 H b) w ∧ Fut X B0 μ.length μ H w μ (freeze1 H b) w ∧ (freeze1 H b).length = H.length := by
      unfold freeze1
      split
      · rename_i o ho
        obtain ⟨l, hl⟩ := h.loc ho
        have := h.less hl ho (o' := o.frozen) (by
            intro b' hb
            cases o <;> simp_all [AObj.frozen, ownB]) (by
            intro b' hb
            cases o <;> simp_all [AObj.frozen, usesB]) (fun M' hM => by
            have hobj := (h.obj b l o hl ho).mono hM (fun _ _ h => h) (fun _ _ => rfl) (μ' := μ) (w' := w)
            cases o <;> exact hobj)
        exact ⟨this.1, this.2, by simp⟩
      · exact ⟨h, Fut.refl h, rfl⟩
    obtain ⟨h2, h3, h4⟩ := freeze_ok bs h1.1
    exact ⟨h2, Fut.trans (Nat.le_refl _) h1.2.1 h3, by rw [h4, h1.2.2]⟩
theorem freeze1_get (H : List AObj) (b i : Nat) : (freeze1 H b)[i]? = if b = i then (H[i]?).map AObj.frozen else H[i]? := by
  unfold freeze1
  split
  · rename_i o ho
    rw [List.getElem?_set]
    by_cases h : b = i
    · subst h
      obtain ⟨hl, _⟩ := List.getElem?_eq_some_iff.1 ho
      simp only [hl, and_self, if_true, ho, Option.map_some]
    · simp [h]
  · rename_i ho
    by_cases h : b = i
    · subst h; simp [ho]
    · simp [h]
theorem kindIs_freeze1 (H : List AObj) (b : Nat) (v : V) (κ : K) : kindIs ty (freeze1 H b) v κ = kindIs ty H v κ := by
  cases v with
  | sref b' off len =>
    simp only [kindIs, freeze1_get]
    by_cases hb : b = b'
    · rw [if_pos hb]
      cases H[b']? with
      | none => rfl
      | some o => cases o <;> rfl
    · rw [if_neg hb]
  | map b' =>
    simp only [kindIs, freeze1_get]
    by_cases hb : b = b'
    · rw [if_pos hb]
      cases H[b']? with
      | none => rfl
      | some o => cases o <;> rfl
    · rw [if_neg hb]
  | _ => rfl
theorem allKinds_freeze : ∀ (bs : List Nat) (H : List AObj) (vs : List V) (ts : List Nat), allKinds ty (bs.foldl freeze1 H) vs ts = allKinds ty H vs ts
  | [], _, _, _ => rfl
  | b :: bs, H, vs, ts => by
    rw [List.foldl_cons, allKinds_freeze bs]
    induction vs generalizing ts with
    | nil => cases ts <;> rfl
    | cons v vs ih => cases ts with
      | nil => rfl
      | cons t ts => simp only [allKinds, kindIs_freeze1, ih]
section ops
variable {R : Type} {E : Env} {hint : Hint} {μ : List Loc} {H : List AObj} {w : World} {regs : List V} {a : Act} {o : Oper} {k : V → Eff → Option R} {r : R} {next : Act → World → Prop} {Q : Exit → Act → World → Prop} {I : World → Prop} {gl : Nat}
variable (EO : EnvOk P E I gl) (hI : I w0) (hgl : gl ≤ B0) (h : HOk E.ty P.cellsOf E.rnd X B0 w0 μ H w) (hr : Regs P E.ty (M_ X μ H w) μ regs a.tmps) (hn : Nexts P E.ty E.rnd X B0 w0 μ H w a o.dst k r next)
theorem vFunc_ok {M : Mem} {u : V} {x : Value} {g : Nat} {fs cs : List V} (hr : RR E.ty P.cellsOf M μ u x) (h : vFunc u = some (g, fs, cs)) : ∃ xs ys, x = .func (.func g) xs ys ∧ RVt E.ty P.cellsOf M μ fs xs.toList ∧ RVt E.ty P.cellsOf M μ cs ys.toList := by
  unfold vFunc at h
  split at h
  · simp only [Option.some.injEq, Prod.mk.injEq] at h
    obtain ⟨rfl, rfl, rfl⟩ := h
    replace hr := hr.resolve_left (by simp)
    obtain ⟨κ, hr⟩ := hr
    simp only [RV, Rep] at hr
    exact ⟨#[], #[], hr.2.2, by simp [RVt], by simp [RVt]⟩
  · simp only [Option.some.injEq, Prod.mk.injEq] at h
    obtain ⟨rfl, rfl, rfl⟩ := h
    replace hr := hr.resolve_left (by simp)
    obtain ⟨κ, hr⟩ := hr
    simp only [RV] at hr
    obtain ⟨_, xs, ys, hx, h1, h2⟩ := hr
    exact ⟨xs, ys, hx, h1, h2⟩
  · simp at h
include EO in
theorem run_enter {c : Call} {fo : Operand} {g : Nat} {fn : Func} {xs ys : Array Value} (ho : o.op = .call c) (hc : c.callee = .value fo) (hx : a.eval fo = .func (.func g) xs ys) (hf : E.fn g = some fn) (hb : fn.body.isSome = true) (w : World) :
    (execOp a.eval o).run P w = .ok (.enter g (xs ++ c.args.map a.eval ++ ys)) w := by
  obtain ⟨h1, h2⟩ := EO.fn g fn hf
  have hb' : fn.body.isNone = false := by cases h : fn.body <;> simp_all
  simp only [execOp, ho, resolve, hc, Deferred.ofValue, hx]
  simp only [run_bind, run_pure, invoke, callFunc, program, Sem.run, h1, h2, hb', Bool.false_eq_true, if_false]
include EO h hr hn in
theorem op_prim {c : Call} {fo : Operand} {g : Nat} {p : List D → Option D} {fn : Func} (ho : o.op = .call c) (hc : c.callee = .value fo) (hvf : vFunc (val regs .func fo) = some (g, [], [])) (hp : E.prim g = some p) (hfn : E.fn g = some fn)
    (hl : c.args.toList.length = fn.params.toList.length) (hk : allKinds E.ty H (vals regs E.ty c.args.toList fn.params.toList) fn.params.toList = true)
    (he : evPrim E H p fn (vals regs E.ty c.args.toList fn.params.toList) k = some r) : o.wp P a w next Q := by
  have T := EO.ty
  obtain ⟨fx, fy, hx, hfx, hfy⟩ := vFunc_ok (val_ok hr .func fo) hvf
  have hfx0 : fx = #[] := by simp only [RVt] at hfx; exact Array.toList_inj.1 hfx
  have hfy0 : fy = #[] := by simp only [RVt] at hfy; exact Array.toList_inj.1 hfy
  subst hfx0 hfy0
  have hvals := RVt.of_vals' hr c.args.toList fn.params.toList hl
  unfold evPrim at he
  split at he
  · rename_i ds hds
    split at he
    · rename_i res hres
      have hE := pureEach_ok T h (st := false) PM_le _ _ _ _ hvals hk hds
      obtain ⟨v, h1, h2⟩ := EO.prim g p hp fn _ ds _ res w (EO.fn g fn hfn).1 hE hres
      have hargs : #[] ++ c.args.map a.eval ++ #[] = (c.args.toList.map a.eval).toArray := by apply Array.toList_inj.1; simp
      refine wp_value (x := v) (w' := w) ?_ (hn.same h he (resV_ok (h2 _)))
      simp only [execOp, ho, resolve, hc, Deferred.ofValue, hx]
      simp only [run_bind, run_pure, invoke]
      rw [hargs]
      exact h1
    · simp at he
  · simp at he
include EO hI hgl h hr hn in
theorem op_con {c : Call} {fo : Operand} {g : Nat} {cc : Con} {fn : Func} (ho : o.op = .call c) (hc : c.callee = .value fo) (hvf : vFunc (val regs .func fo) = some (g, [], [])) (hcon : E.con g = some cc) (hfn : E.fn g = some fn)
    (hb : fn.body.isSome = true) (hl : c.args.toList.length = fn.params.toList.length) (hk : allKinds E.ty H (vals regs E.ty c.args.toList fn.params.toList) fn.params.toList = true)
    (he : evCon E H cc fn (vals regs E.ty c.args.toList fn.params.toList) k = some r) : o.wp P a w next Q := by
  have T := EO.ty
  obtain ⟨fx, fy, hx, hfx, hfy⟩ := vFunc_ok (val_ok hr .func fo) hvf
  have hfx0 : fx = #[] := by simp only [RVt] at hfx; exact Array.toList_inj.1 hfx
  have hfy0 : fy = #[] := by simp only [RVt] at hfy; exact Array.toList_inj.1 hfy
  subst hfx0 hfy0
  have hrun := run_enter EO ho hc hx hfn hb w
  have hargs : #[] ++ c.args.map a.eval ++ #[] = (c.args.toList.map a.eval).toArray := by apply Array.toList_inj.1; simp
  rw [hargs] at hrun
  have hvals := RVt.of_vals' hr c.args.toList fn.params.toList hl
  have hcontr := EO.con g cc fn hcon hfn
  have hIw : I w := EO.keep w0 w (h.below.mono hgl) hI
  unfold Oper.wp
  rw [hrun]
  rw [Oper.upon_enter]
  unfold evCon at he
  cases hp : cc.plain with
  | true =>
    rw [hp] at he
    simp only [cond_true] at he
    split at he
    · rename_i ds hds
      split at he
      · rename_i res hres
        have hE := pureEach_ok T h (st := false) PM_le _ _ _ _ hvals hk hds
        refine (hcontr (X ++ []) w ds _ res hIw (fun b hb => ?_) hE hres).mono ?_
        · have := h.resv b (by simpa using hb); have := h.size; omega
        · rintro e w' ⟨v, rfl, hbelow, hv⟩
          rw [if_pos hp] at hv
          obtain ⟨g1, g2⟩ := h.grow hbelow
          exact hn _ .none μ w' v he (resV_ok (hv _)) g1 g2
      · simp at he
    · simp at he
  | false =>
    rw [hp] at he
    simp only [cond_false] at he
    obtain ⟨f1, f2, f3⟩ := freeze_ok (V.refsL (vals regs E.ty c.args.toList fn.params.toList)) h
    split at he
    · rename_i ds hds
      split at he
      · rename_i res hres
        have hkf : allKinds E.ty ((V.refsL (vals regs E.ty c.args.toList fn.params.toList)).foldl freeze1 H) (vals regs E.ty c.args.toList fn.params.toList) fn.params.toList = true := by
          rw [allKinds_freeze]; exact hk
        have hE := pureEach_ok T f1 (st := true) f2.mem _ _ _ _ hvals hkf hds
        have hXb : ∀ b ∈ X ++ owned μ ((V.refsL (vals regs E.ty c.args.toList fn.params.toList)).foldl freeze1 H), b < w.heap.size := by
          intro b hb
          rcases List.mem_append.1 hb with hb | hb
          · have := h.resv b hb; have := h.size; omega
          · obtain ⟨j, l', o', g1, g2, g3⟩ := mem_owned.1 hb
            exact f1.bound j b ⟨l', o', g1, g2, (own_uses g3).1⟩
        refine (hcontr _ w ds _ res hIw hXb hE hres).mono ?_
        rintro e w' ⟨v, rfl, hbelow, hv⟩
        rw [if_neg (by simp [hp])] at hv
        cases hfr : cc.fresh with
        | false =>
          rw [hfr] at he
          simp only [cond_false] at he
          rw [if_neg (by simp [hfr])] at hv
          obtain ⟨g1, g2⟩ := f1.grow hbelow
          refine hn _ (.freeze _) μ w' v he (resV_ok hv) g1 ?_
          exact Fut.trans (Nat.le_refl _) f2 g2
        | true =>
          rw [hfr] at he
          simp only [cond_true] at he
          rw [if_pos hfr] at hv
          rcases hv with ⟨t, a', e, es, blk, ms, hts, hke, rfl, rfl, hge, hblk, hent⟩ | ⟨t, e, nn, ds', hts, hke, rfl, hv⟩
          · rw [hts] at he
            simp only [hke, D.elems, List.map_map] at he
            have hmap : (es.map ((fun p : D => (p.at 0, p.at 1)) ∘ fun p : D × D => D.tup [p.1, p.2])) = es := by
              have : ((fun p : D => (p.at 0, p.at 1)) ∘ fun p : D × D => D.tup [p.1, p.2]) = id := rfl
              rw [this, List.map_id]
            rw [hmap] at he
            obtain ⟨_, hka, hkb⟩ := under_map T hke
            obtain ⟨h1, h2⟩ := HOk.newAt' f1 (l := ⟨blk, 0, 0, .map a' e, false, false⟩) (o := .map a' e es) hbelow (fun b hb => by simp [usesB] at hb; omega) (fun M' hM hM2 => by
              simp only [ObjOk]
              refine ⟨trivial, hka, hkb, ms, hblk, ?_⟩
              have e2 : M' = memOf w' (X ++ owned μ ((V.refsL (vals regs E.ty c.args.toList fn.params.toList)).foldl freeze1 H) ++ [blk]) := by rw [hM2]; simp [ownB]
              rw [e2]; exact hent)
            refine hn _ (.freezeNew _ _) _ w' _ he (.inr ⟨.map a' e, ?_⟩) h1 (Fut.trans (Nat.le_refl _) f2 h2)
            simp only [RV]
            refine ⟨⟨blk, 0, 0, .map a' e, false, false⟩, a', e, ?_, rfl, rfl, rfl⟩
            rw [← f1.len]; simp
          rw [hts] at he
          simp only [hke] at he
          have hne := under_slice_ne T hke
          rcases hv with ⟨rfl, ad, rfl, ha⟩ | ⟨rfl, blk, base, cap, cs, et, fz, pre, mid, post, h1, rfl, h2, h3, h4, h5, h6, h7, h8⟩
          · obtain ⟨g1, g2, g3⟩ := newVirt f1 hbelow hne ad
            subst ha
            exact hn _ (.freezeNew _ _) _ w' _ he g3 g1 (Fut.trans (Nat.le_refl _) f2 g2)
          · obtain ⟨g1, g2, g3⟩ := newRow_at f1 hbelow (pre := pre) h4 h1 h2 hne h3 (fun M' _ hM => by rw [hM]; simpa using h5) h6 h7 h8.1 h8.2
            exact hn _ (.freezeNew _ _) _ w' _ he g3 g1 (Fut.trans (Nat.le_refl _) f2 g2)
      · simp at he
    · simp at he
end ops
end
end Go.AM
namespace Go.AM
open Go Go.RowKit
section
variable {P : Program} {X : List Nat} {B0 : Nat} {w0 : World}
variable {R : Type} {E : Env} {hint : Hint} {I : World → Prop} {gl : Nat}
variable (EO : EnvOk P E I gl) (hI : I w0) (hgl : gl ≤ B0)
include EO hI hgl
theorem evOp_ok {μ : List Loc} {H : List AObj} {w : World} {regs : List V} {a : Act} {o : Oper} {k : V → Eff → Option R} {r : R} {next : Act → World → Prop} {Q : Exit → Act → World → Prop}
    (h : HOk E.ty P.cellsOf E.rnd X B0 w0 μ H w) (hr : Regs P E.ty (M_ X μ H w) μ regs a.tmps) (hn : Nexts P E.ty E.rnd X B0 w0 μ H w a o.dst k r next)
    (he : evOp E hint H regs o.type o.op k = some r) : o.wp P a w next Q := by
  have T := EO.ty
  cases ho : o.op with
  | move x => rw [ho] at he; exact op_move h hr hn (.inl ho) he
  | assign x => rw [ho] at he; exact op_move h hr hn (.inr ho) he
  | pick c x y => rw [ho] at he; exact op_pick h hr hn ho he
  | alloc t => rw [ho] at he; exact op_alloc T h hr hn ho he
  | box t x => rw [ho] at he; exact op_box T h hr hn ho he
  | build t ps => rw [ho] at he; exact op_build T h hr hn ho he
  | buildSlice t n ps => rw [ho] at he; exact op_buildSlice T h hr hn ho he
  | load t x => rw [ho] at he; exact op_load T h hr hn ho he
  | store t x y => rw [ho] at he; exact op_store T h hr hn ho he
  | nilCheck x => rw [ho] at he; exact op_nilCheck h hr hn ho he
  | binOp op t x y u => rw [ho] at he; exact op_binOp T h hr hn ho he
  | unOp op t x => rw [ho] at he; exact op_unOp T h hr hn ho he
  | convert s d x => rw [ho] at he; exact op_convert T h hr hn ho he
  | makeInterface t x => rw [ho] at he; exact op_makeInterface T h hr hn ho he
  | makeFunc fn f c => rw [ho] at he; exact op_makeFunc h hr hn ho he
  | makeSlice t l c => rw [ho] at he; exact op_makeSlice T h hr hn ho he
  | slice t x lo hi mx => rw [ho] at he; exact op_sliceA T h hr hn ho he
  | fieldAddr t x f => rw [ho] at he; exact op_fieldAddr T h hr hn ho he
  | field t x f => rw [ho] at he; exact op_field T h hr hn ho he
  | indexAddr t x i => rw [ho] at he; exact op_indexAddr T h hr hn ho he
  | index t x i => rw [ho] at he; exact op_index T h hr hn ho he
  | range t x => rw [ho] at he; exact op_range T h hr hn ho he
  | next it b => rw [ho] at he; exact op_next h hr hn ho he
  | typeAssert x xT t ok => rw [ho] at he; exact op_typeAssert T h hr hn ho he
  | makeMap t x => rw [ho] at he; exact op_makeMap T h hr hn ho he
  | insert t m key v =>
    rw [ho] at he
    simp only [evOp] at he
    cases hu : hint.unk
    · rw [hu] at he; exact op_insert T h hr hn (.inl ho) he
    · rw [hu] at he; exact op_insertU T h hr hn (.inl ho) he
  | mapUpdate t m key v =>
    rw [ho] at he
    simp only [evOp] at he
    cases hu : hint.unk
    · rw [hu] at he; exact op_insert T h hr hn (.inr ho) he
    · rw [hu] at he; exact op_insertU T h hr hn (.inr ho) he
  | mapEntry t m key =>
    rw [ho] at he
    simp only [evOp] at he
    cases hu : hint.unk
    · rw [hu] at he; simp at he
    · rw [hu] at he; exact op_mapEntry T h hr hn ho he
  | entryStore t m i v => rw [ho] at he; exact op_entryStore T h hr hn ho (by simpa only [evOp] using he)
  | lookup t m key ok =>
    rw [ho] at he
    simp only [evOp] at he
    cases hu : hint.unk
    · rw [hu] at he; exact op_lookup T h hr hn ho he
    · rw [hu] at he; exact op_lookupU T h hr hn ho he
  | extract x i => rw [ho] at he; exact op_extract T h hr hn ho he
  | call c =>
    rw [ho] at he
    simp only [evOp] at he
    split at he
    · rename_i b hc
      split at he
      · rename_i hl
        cases b with
        | len => exact op_len T h hr hn ho hc hl he
        | append => exact op_append T h hr hn ho hc hl he
        | max => exact op_maxmin (most := true) h hr hn ho (by simpa using hc) hl he
        | min => exact op_maxmin (most := false) h hr hn ho (by simpa using hc) hl he
        | clear => exact op_clear T h hr hn ho hc hl he
        | copy => exact op_copy T h hr hn ho hc hl he
        | _ => simp [evBuiltin] at he
      · simp at he
    · rename_i fo hc
      split at he
      · rename_i g hvf
        split at he
        · rename_i p hp
          split at he
          · rename_i fn hfn
            split at he
            · rename_i hb
              exact op_prim EO h hr hn ho hc hvf hp hfn hb.1 hb.2 he
            · simp at he
          · simp at he
        split at he
        · rename_i cc fn hcon hfn
          split at he
          · rename_i hb
            exact op_con EO hI hgl h hr hn ho hc hvf hcon hfn hb.1 hb.2.1 hb.2.2 he
          · simp at he
        · simp at he
      · simp at he
    · simp at he
  | _ => rw [ho] at he; simp [evOp] at he
def Defs (n0 : Nat) (a : Act) (w : World) : Prop :=
  n0 ≤ w.heap.size ∧ ∃ bs : List Nat, a.defers = bs.map (fun b => ({ target := .collected b, args := #[] } : Deferred)) ∧ bs.Nodup ∧ ∀ b ∈ bs, n0 ≤ b ∧ w.heap[b]? = some (.deferred (some []))
omit EO hI hgl in
theorem Defs.next {n0 base : Nat} {a a' : Act} {w w' : World} {μ μ' : List Loc} {H H' : List AObj} (h : Defs n0 a w) (F : Fut X B0 base μ H w μ' H' w') (e : a'.defers = a.defers) : Defs n0 a' w' := by
  obtain ⟨h0, bs, h1, h2, h3⟩ := h
  exact ⟨Nat.le_trans h0 F.below.size, bs, by rw [e, h1], h2, fun b hb => ⟨(h3 b hb).1, F.dfr b (h3 b hb).2⟩⟩
omit EO hI hgl in
theorem Defs.nil {a : Act} {w : World} (h : a.defers = []) : Defs w.heap.size a w := ⟨Nat.le_refl _, [], by simp [h], by simp, by simp⟩
abbrev Fr (ro : Option Nat) : Fence := { Fence.wide with round := ro }
omit EO hI hgl in
theorem Fr_room (ro : Option Nat) (k : Nat) : (Fr ro).room k := room_wide k
omit EO hI hgl in
theorem callsIn_Fr {ro : Option Nat} {n : Nat} {f : Nat} {args : Array Value} {w : World} {Q : Ending → World → Prop} (h : Calls P f args w Q) : CallsIn (Fr ro) n P f args w Q := by
  have := (callsIn_wide (n := n)).2 h
  exact this
omit EO hI hgl in
theorem rowsIn_Fr {ro : Option Nat} {n : Nat} {row : String} {args : Array Value} {w : World} {Q : Value → World → Prop} (h : Rows P row args w Q) : RowsIn (Fr ro) n P row args w Q := by
  intro c cs _
  obtain ⟨v, w', r, s⟩ := h c cs
  exact ⟨v, w', r, stepsIn_wide.2 s⟩
omit EO hI hgl in
theorem wpIn_of_wp {ro : Option Nat} {n : Nat} {a : Act} {w : World} {o : Oper} {next : Act → World → Prop} {Q : Exit → Act → World → Prop} (hd : ∀ c, o.op ≠ .defer c) (h : o.wp P a w next Q) : o.wpIn (Fr ro) n P a w next Q := by
  refine ⟨fun _ _ => trivial, ?_⟩
  have hs : o.semAt ro a.eval = execOp a.eval o := by
    unfold Oper.semAt
    split
    · rename_i c hc; exact absurd hc (hd c)
    · rfl
  show o.uponIn (Fr ro) n P a next Q ((o.semAt ro a.eval).run P w)
  rw [hs]
  unfold Oper.wp at h
  revert h
  cases hrun : (execOp a.eval o).run P w with
  | ok x w' =>
    cases x with
    | value v => exact id
    | skip => exact id
    | defer d => exact id
    | enter f args => exact fun h => ⟨fun h => by simp [Fence.wide] at h, callsIn_Fr h⟩
    | row row args => exact fun h => ⟨fun h => by simp [Fence.wide] at h, rowsIn_Fr h⟩
    | _ => exact fun h => h.elim
  | halt x w' =>
    cases x with
    | panic v => exact id
    | _ => exact fun h => h.elim
theorem evOp_okIn {ro : Option Nat} {n : Nat} {μ : List Loc} {H : List AObj} {w : World} {regs : List V} {a : Act} {o : Oper} {k : V → Eff → Option R} {r : R} {next : Act → World → Prop} {Q : Exit → Act → World → Prop}
    (h : HOk E.ty P.cellsOf E.rnd X B0 w0 μ H w) (hr : Regs P E.ty (M_ X μ H w) μ regs a.tmps) (hn : Nexts P E.ty E.rnd X B0 w0 μ H w a o.dst k r next)
    (he : evOp E hint H regs o.type o.op k = some r) : o.wpIn (Fr ro) n P a w next Q := by
  refine wpIn_of_wp (fun c hc => ?_) (evOp_ok EO hI hgl h hr hn he)
  rw [hc] at he
  simp [evOp] at he
def InlOk (P : Program) (E : Env) (X : List Nat) (B0 : Nat) (w0 : World) (inl : Tgt → List V → List AObj → (V → List AObj → Option R) → Option R) : Prop :=
  ∀ (t : Tgt) (args : List V) (H : List AObj) (k : V → List AObj → Option R) (r : R) (μ : List Loc) (w : World) (xs : List Value) (Post : Value → World → Prop),
    inl t args H k = some r → HOk E.ty P.cellsOf E.rnd X B0 w0 μ H w → RVt E.ty P.cellsOf (M_ X μ H w) μ args xs →
    (∀ v H' μ' w' x, k v H' = some r → RR E.ty P.cellsOf (M_ X μ' H' w') μ' v x → HOk E.ty P.cellsOf E.rnd X B0 w0 μ' H' w' → Fut X B0 μ.length μ H w μ' H' w' → Post x w') →
    match t with
    | .fn g => Calls P g xs.toArray w fun e w' => ∃ x, e = .returned x ∧ Post x w'
    | .yield b => ∀ l, μ[b]? = some l → YieldAt Fence.wide 0 P l.blk xs.toArray w fun e w' => ∃ x, e = .returned x ∧ Post x w'
omit EO hI hgl in
theorem RVt.append {ty : Nat → K} {sz : Nat → Nat} {M : Mem} {μ : List Loc} : ∀ {as1 bs : List V} {xs ys : List Value}, RVt ty sz M μ as1 xs → RVt ty sz M μ bs ys → RVt ty sz M μ (as1 ++ bs) (xs ++ ys)
  | [], bs, xs, ys, h, k => by simp only [RVt] at h; subst h; simpa using k
  | a :: as1, bs, xs, ys, h, k => by
    simp only [RVt] at h
    obtain ⟨x, rest, rfl, h1, h2⟩ := h
    simp only [List.cons_append, RVt]
    exact ⟨x, rest ++ ys, rfl, h1, RVt.append h2 k⟩
omit hI hgl in
theorem inlines_ok {inl : Tgt → List V → List AObj → (V → List AObj → Option R) → Option R} (IN : InlOk P E X B0 w0 inl) {ro : Option Nat} {μ : List Loc} {H : List AObj} {w : World} {regs : List V} {a : Act} {o : Oper} {r : R} {next : Act → World → Prop} {Q : Exit → Act → World → Prop}
    (h : HOk E.ty P.cellsOf E.rnd X B0 w0 μ H w) (hr : Regs P E.ty (M_ X μ H w) μ regs a.tmps) {g : Tgt} {args : List V} {k : V → List AObj → Option R} (hi : inlines E regs o = some (g, args)) (he : inl g args H k = some r)
    (hk : ∀ v H' μ' w' x, k v H' = some r → RR E.ty P.cellsOf (M_ X μ' H' w') μ' v x → HOk E.ty P.cellsOf E.rnd X B0 w0 μ' H' w' → Fut X B0 μ.length μ H w μ' H' w' → next (a.put o.dst x) w') : o.wpIn (Fr ro) 0 P a w next Q := by
  unfold inlines at hi
  split at hi
  · rename_i c ho
    have hd : ∀ c, o.op ≠ .defer c := fun c' h => by rw [ho] at h; cases h
    split at hi
    · rename_i fo hc
      split at hi
      · rename_i g' fs cs hvf
        obtain ⟨xs, ys, hx, hxs, hys⟩ := vFunc_ok (val_ok hr .func fo) hvf
        have hfin : ∀ fn, E.fn g' = some fn → fn.body.isSome = true → c.args.toList.length = (fn.params.toList.drop fs.length).length → .fn g' = g → fs ++ vals regs E.ty c.args.toList (fn.params.toList.drop fs.length) ++ cs = args → o.wpIn (Fr ro) 0 P a w next Q := by
          intro fn hfn hb hl hg hargs
          subst hg
          have hrun := run_enter EO ho hc hx hfn hb w
          refine wpIn_of_wp hd ?_
          unfold Oper.wp
          rw [hrun, Oper.upon_enter]
          have hvals := RVt.of_vals' hr c.args.toList (fn.params.toList.drop fs.length) hl
          have hall := (hxs.append hvals).append hys
          rw [hargs] at hall
          have hcall := IN (.fn g') args H k r μ w _ (fun x w' => next (a.put o.dst x) w') he h hall hk
          have e1 : (xs.toList ++ c.args.toList.map a.eval ++ ys.toList).toArray = xs ++ c.args.map a.eval ++ ys := by apply Array.toList_inj.1; simp
          simp only at hcall
          rw [e1] at hcall
          exact hcall.mono (by rintro e w' ⟨x, rfl, hx⟩; exact hx)
        split at hi
        · simp at hi
        · split at hi
          · rename_i fn hfn
            split at hi
            · rename_i hb
              simp only [Option.some.injEq, Prod.mk.injEq] at hi
              exact hfin fn hfn hb.1 hb.2 hi.1 hi.2
            · simp at hi
          · simp at hi
      · split at hi
        · rename_i b hv
          split at hi
          · rename_i hl
            simp only [Option.some.injEq, Prod.mk.injEq] at hi
            obtain ⟨rfl, rfl⟩ := hi
            have hx := val_ok hr .func fo
            rw [hv] at hx
            replace hx := hx.resolve_left (by simp)
            obtain ⟨κ, hx⟩ := hx
            simp only [RV] at hx
            obtain ⟨_, l, hμ, _, hx⟩ := hx
            have hvals := RVt.of_vals' hr c.args.toList c.argTypes.toList hl
            have hcall := IN (.yield b) _ H k r μ w _ (fun x w' => next (a.put o.dst x) w') he h hvals hk l hμ
            obtain ⟨fn, tmps, asg, body, h1, h2⟩ := hcall
            refine ⟨fun _ _ => trivial, ?_⟩
            have hs : o.semAt ro a.eval = execOp a.eval o := by
              unfold Oper.semAt
              split
              · rename_i c hc'; exact absurd hc' (hd c)
              · rfl
            show o.uponIn (Fr ro) 0 P a next Q ((o.semAt ro a.eval).run P w)
            have hrun : (execOp a.eval o).run P w = .ok (.round l.blk fn tmps asg body) w := by
              simp only [execOp, ho, resolve, hc, Deferred.ofValue, hx]
              simp only [run_bind, run_pure, invoke]
              have e1 : (List.map a.eval c.args.toList).toArray = c.args.map a.eval := by apply Array.toList_inj.1; simp
              rw [e1] at h1
              simpa using h1
            rw [hs, hrun, Oper.uponIn_round]
            refine ⟨fun h => by simp [Fence.wide] at h, ?_⟩
            have h3 : RoundIn (Fr ro) 0 P l.blk fn tmps asg body w (fun e w' => ∃ x, e = .returned x ∧ next (a.put o.dst x) w') := h2
            exact h3.mono (by rintro e w' ⟨x, rfl, hx⟩; exact hx)
          · simp at hi
        · simp at hi
    · simp at hi
  · simp at hi
omit EO hI hgl in
theorem Regs.refine {M : Mem} {μ : List Loc} {regs : List V} {tmps : Array Value} (hr : Regs P E.ty M μ regs tmps) {t : Nat} {x : D} {b : Bool} (ht : regs.getD t .undef = .d .bool x) (hb : x.b = b) :
    Regs P E.ty M μ (regs.set t (.d .bool (.bool b))) tmps ∧ tmps[t]? = some (.bool b) := by
  have h1 := hr.get t
  rw [ht] at h1
  replace h1 := h1.resolve_left (by simp)
  obtain ⟨κ, h1⟩ := h1
  simp only [RV] at h1
  obtain ⟨rfl, h1⟩ := h1
  have h2 := rep_bool h1
  rw [hb] at h2
  have hlt : t < tmps.size := by
    rcases Nat.lt_or_ge t tmps.size with h | h
    · exact h
    · rw [Array.getD_eq_getD_getElem?, Array.getElem?_eq_none h] at h2
      simp [Go.undef] at h2
  refine ⟨⟨by simp [hr.len], fun i => ?_⟩, ?_⟩
  · rw [getD_set]
    split
    · rename_i hi
      obtain ⟨rfl, _⟩ := hi
      exact .inr ⟨.bool, by simp only [RV, Rep]; exact ⟨trivial, trivial, h2⟩⟩
    · exact hr.get i
  · rw [Array.getD_eq_getD_getElem?, Array.getElem?_eq_getElem hlt] at h2
    rw [Array.getElem?_eq_getElem hlt]
    simpa using h2
omit EO hI hgl in
theorem rr_skip {ty : Nat → K} {sz : Nat → Nat} {M : Mem} {μ : List Loc} : RR ty sz M μ (.tup []) Go.undef :=
  .inr ⟨.bad, by simp only [RV]; exact ⟨trivial, #[], rfl, by simp [RVt]⟩⟩
omit EO hI hgl in
theorem rr_skipped {ty : Nat → K} {sz : Nat → Nat} {M : Mem} {μ : List Loc} {x : Value} (h : RR ty sz M μ (.tup []) x) : x = Go.undef := by
  replace h := h.resolve_left (by simp)
  obtain ⟨κ, h⟩ := h
  simp only [RV] at h
  obtain ⟨_, xs, rfl, h⟩ := h
  simp only [RVt] at h
  have : xs = #[] := by apply Array.toList_inj.1; simpa using h
  simp [Go.undef, this]
theorem evOps_ok {inl : Tgt → List V → List AObj → (V → List AObj → Option R) → Option R} (IN : InlOk P E X B0 w0 inl) {ro : Option Nat} {n0 : Nat} {ops : Array Oper} {Q : Exit → Act → World → Prop} {r : R} {k : List V → List AObj → Option R}
    {base : Nat} {μs : List Loc} {Hs : List AObj} {ws : World}
    (hk : ∀ regs' H' μ' a' w', k regs' H' = some r → HOk E.ty P.cellsOf E.rnd X B0 w0 μ' H' w' → Regs P E.ty (M_ X μ' H' w') μ' regs' a'.tmps → Defs n0 a' w' → Fut X B0 base μs Hs ws μ' H' w' → Q .normal a' w') :
    ∀ (os pre : List Oper) (regs : List V) (H : List AObj) (μ : List Loc) (a : Act) (w : World), ops.toList = pre ++ os → evOps E inl hint (ops.toList.map (·.dst)) os regs H k = some r →
      HOk E.ty P.cellsOf E.rnd X B0 w0 μ H w → Regs P E.ty (M_ X μ H w) μ regs a.tmps → Defs n0 a w → Fut X B0 base μs Hs ws μ H w → wpOpsIn (Fr ro) 0 P ops Q (List.range' pre.length os.length) a w
  | [], pre, regs, H, μ, a, w, ho, he, h, hr, hd, F => by
    simp only [evOps] at he
    simp only [List.length_nil, List.range'_zero, wpOpsIn]
    exact hk regs H μ a w he h hr hd F
  | o :: os, pre, regs, H, μ, a, w, ho, he, h, hr, hd, F => by
    have hget : ops[pre.length]? = some o := by rw [← Array.getElem?_toList, ho]; simp
    have hrest : ops.toList = (pre ++ [o]) ++ os := by rw [ho]; simp
    have hlen : (pre ++ [o]).length = pre.length + 1 := by simp
    simp only [List.length_cons, List.range'_succ, wpOpsIn, hget]
    have hgo : ∀ regs', Regs P E.ty (M_ X μ H w) μ regs' a.tmps →
        (match inlines E regs' o with
          | some (g, args) => inl g args H fun v H' => evOps E inl hint (ops.toList.map (·.dst)) os (setD regs' o.dst v) H' k
          | none => evOp E hint H regs' o.type o.op fun v e => evOps E inl hint (ops.toList.map (·.dst)) os (setD regs' o.dst v) (e.app H) k) = some r →
        o.wpIn (Fr ro) 0 P a w (wpOpsIn (Fr ro) 0 P ops Q (List.range' (pre.length + 1) os.length)) Q := by
      intro regs' hr' he'
      have hnext : ∀ v H' μ' w' x, evOps E inl hint (ops.toList.map (·.dst)) os (setD regs' o.dst v) H' k = some r → RR E.ty P.cellsOf (M_ X μ' H' w') μ' v x → HOk E.ty P.cellsOf E.rnd X B0 w0 μ' H' w' → Fut X B0 μ.length μ H w μ' H' w' →
          wpOpsIn (Fr ro) 0 P ops Q (List.range' (pre.length + 1) os.length) (a.put o.dst x) w' := by
        intro v H' μ' w' x hk' hv h' F'
        have := evOps_ok IN (ro := ro) hk os (pre ++ [o]) (setD regs' o.dst v) H' μ' (a.put o.dst x) w' hrest hk' h' ((hr'.mono F'.mem (F'.keeps (Nat.le_refl _))).set hv) (hd.next F' (put_defers _ _ _)) (F.trans F.len F')
        rwa [hlen] at this
      split at he'
      · rename_i g args hi
        exact inlines_ok EO IN h hr' hi he' hnext
      · exact evOp_okIn EO hI hgl h hr' (fun u e μ' w' x hk' hv h' F' => hnext u (e.app H) μ' w' x hk' hv h' F') he'
    have hskip : ∀ regs', Regs P E.ty (M_ X μ H w) μ regs' a.tmps → evOps E inl hint (ops.toList.map (·.dst)) os (setD regs' o.dst (.tup [])) H k = some r →
        wpOpsIn (Fr ro) 0 P ops Q (List.range' (pre.length + 1) os.length) (a.put o.dst Go.undef) w := by
      intro regs' hr' he'
      have := evOps_ok IN (ro := ro) hk os (pre ++ [o]) (setD regs' o.dst (.tup [])) H μ (a.put o.dst Go.undef) w hrest he' h (hr'.set rr_skip) (hd.next (Fut.refl h) (put_defers _ _ _)) F
      rwa [hlen] at this
    simp only [evOps] at he
    split at he
    · rename_i hg
      have hw : Region.wanted o (yielded ops a.tmps) = true := by simp [Region.wanted, hg]
      rw [if_pos hw]
      exact (hgo regs hr he)
    · rename_i j want hg
      split at he
      · rename_i t hdst
        split at he
        · rename_i x hx
          have hy : ∀ b, x.b = b → Region.wanted o (yielded ops a.tmps) = (some b == some want) := by
            intro b hb
            have h2 := (hr.refine hx hb).2
            have hdst' : (ops[j]?).bind (·.dst) = some t := by
              rw [← Array.getElem?_toList]
              rw [List.getD_eq_getElem?_getD, List.getElem?_map] at hdst
              cases hoj : ops.toList[j]? with
              | none => rw [hoj] at hdst; simp at hdst
              | some oj => rw [hoj] at hdst; simpa using hdst
            simp [Region.wanted, hg, yielded, hdst', h2]
          split at he
          · rename_i hb
            have h1 := (hr.refine hx hb).1
            have hw := hy true hb
            cases want with
            | true =>
              simp only [cond_true] at he
              rw [if_pos (by rw [hw]; rfl)]
              exact (hgo _ h1 he)
            | false =>
              simp only [cond_false] at he
              rw [if_neg (by rw [hw]; simp)]
              exact ⟨fun _ _ => trivial, hskip _ h1 he⟩
          · rename_i hb
            have h1 := (hr.refine hx hb).1
            have hw := hy false hb
            cases want with
            | true =>
              simp only [cond_true] at he
              rw [if_neg (by rw [hw]; simp)]
              exact ⟨fun _ _ => trivial, hskip _ h1 he⟩
            | false =>
              simp only [cond_false] at he
              rw [if_pos (by rw [hw]; rfl)]
              exact (hgo _ h1 he)
        · rename_i hx
          have h2 := hr.get t
          rw [hx] at h2
          have h3 := rr_skipped h2
          have hw : Region.wanted o (yielded ops a.tmps) = false := by
            have hdst' : (ops[j]?).bind (·.dst) = some t := by
              rw [← Array.getElem?_toList]
              rw [List.getD_eq_getElem?_getD, List.getElem?_map] at hdst
              cases hoj : ops.toList[j]? with
              | none => rw [hoj] at hdst; simp at hdst
              | some oj => rw [hoj] at hdst; simpa using hdst
            rw [Array.getD_eq_getD_getElem?] at h3
            cases hat : a.tmps[t]? with
            | none => simp [Region.wanted, hg, yielded, hdst', hat]
            | some y =>
              rw [hat] at h3
              simp only [Option.getD_some] at h3
              subst h3
              simp [Region.wanted, hg, yielded, hdst', hat, Go.undef]
          rw [if_neg (by rw [hw]; simp)]
          exact ⟨fun _ _ => trivial, hskip _ hr he⟩
        · simp at he
      · simp at he
end
end Go.AM
namespace Go.AM
open Go Go.RowKit
section
variable {P : Program} {ty : Nat → K} {sz : Nat → Nat} {cd : Cd} {X : List Nat} {B0 : Nat} {w0 : World}
def renN (i j b : Nat) : Nat := bif b == i then j else b
mutual
theorem RV.ren {M M' : Mem} {μ μ' : List Loc} {i j : Nat} (hM : M.le M') : ∀ (u : V) (κ : K) (x : Value), (∀ b ∈ u.refs, ∀ l, μ[b]? = some l → μ'[renN i j b]? = some l) → RV ty sz M μ u κ x → RV ty sz M' μ' (u.ren i j) κ x
  | .d κ' y, κ, x, _, k => by simp only [V.ren, RV] at k ⊢; exact ⟨k.1, Rep.mono ty hM _ _ _ k.2⟩
  | .agg κ' vs, κ, x, h, k => by
    simp only [V.ren, RV] at k ⊢
    obtain ⟨a, b, cs, c, e⟩ := k
    exact ⟨a, b, cs, c, RVs.ren hM vs _ _ (by simpa only [V.refs] using h) e⟩
  | .tup vs, κ, x, h, k => by
    simp only [V.ren, RV] at k ⊢
    obtain ⟨a, xs, c, e⟩ := k
    exact ⟨a, xs, c, RVt.ren hM vs _ (by simpa only [V.refs] using h) e⟩
  | .dtup κs y, κ, x, _, k => by
    simp only [V.ren, RV] at k ⊢
    obtain ⟨a, ds, xs, b, c, e⟩ := k
    exact ⟨a, ds, xs, b, c, Each.mono ty hM _ _ _ e⟩
  | .sref b off len, κ, x, h, k => by
    simp only [V.ren, RV] at k ⊢
    obtain ⟨l, n, e, a, r⟩ := k
    exact ⟨l, n, e, h b (by simp [V.refs]) l a, r⟩
  | .lit e ds, κ, x, _, k => by
    simp only [V.ren, RV] at k ⊢
    obtain ⟨a, ad, cs, b, c, r⟩ := k
    exact ⟨a, ad, cs, b, c.mono hM, Reps.mono ty hM _ _ _ r⟩
  | .ptr b p κ', κ, x, h, k => by
    simp only [V.ren, RV] at k ⊢
    obtain ⟨a, l, c, r⟩ := k
    exact ⟨a, l, h b (by simp [V.refs]) l c, r⟩
  | .cptr κ' y, κ, x, _, k => by
    simp only [V.ren, RV] at k ⊢
    obtain ⟨a, ad, y', b, c, r⟩ := k
    exact ⟨a, ad, y', b, c.mono hM, Rep.mono ty hM _ _ _ r⟩
  | .func f a c, κ, x, h, k => by
    simp only [V.ren, RV] at k ⊢
    obtain ⟨e, xs, ys, b, r, r'⟩ := k
    exact ⟨e, xs, ys, b, RVt.ren hM a _ (fun b hb => h b (by simp [V.refs, hb])) r, RVt.ren hM c _ (fun b hb => h b (by simp [V.refs, hb])) r'⟩
  | .iface t u, κ, x, h, k => by
    simp only [V.ren, RV] at k ⊢
    obtain ⟨a, n, y, b, r⟩ := k
    exact ⟨a, n, y, b, RV.ren hM u _ _ (by simpa only [V.refs] using h) r⟩
  | .map b, κ, x, h, k => by
    simp only [V.ren, RV] at k ⊢
    obtain ⟨l, a, e, c, r⟩ := k
    exact ⟨l, a, e, h b (by simp [V.refs]) l c, r⟩
  | .iter b, κ, x, h, k => by
    simp only [V.ren, RV] at k ⊢
    obtain ⟨a, l, c, r⟩ := k
    exact ⟨a, l, h b (by simp [V.refs]) l c, r⟩
  | .yield b, κ, x, h, k => by
    simp only [V.ren, RV] at k ⊢
    obtain ⟨a, l, c, r⟩ := k
    exact ⟨a, l, h b (by simp [V.refs]) l c, r⟩
  | .undef, κ, x, _, k => by simp only [RV] at k
theorem RVs.ren {M M' : Mem} {μ μ' : List Loc} {i j : Nat} (hM : M.le M') : ∀ (us : List V) (κs : List K) (cs : List Value), (∀ b ∈ V.refsL us, ∀ l, μ[b]? = some l → μ'[renN i j b]? = some l) → RVs ty sz M μ us κs cs → RVs ty sz M' μ' (V.renL i j us) κs cs
  | [], _, _, _, k => by simpa only [RVs, V.renL] using k
  | u :: us, κs, cs, h, k => by
    simp only [V.renL, RVs] at k ⊢
    obtain ⟨κ, κs', x, rest, a, b, n, c, e⟩ := k
    exact ⟨κ, κs', x, rest, a, b, n, RV.ren hM u _ _ (fun b hb => h b (by simp [V.refsL, hb])) c, RVs.ren hM us _ _ (fun b hb => h b (by simp [V.refsL, hb])) e⟩
theorem RVt.ren {M M' : Mem} {μ μ' : List Loc} {i j : Nat} (hM : M.le M') : ∀ (us : List V) (xs : List Value), (∀ b ∈ V.refsL us, ∀ l, μ[b]? = some l → μ'[renN i j b]? = some l) → RVt ty sz M μ us xs → RVt ty sz M' μ' (V.renL i j us) xs
  | [], _, _, k => by simpa only [RVt, V.renL] using k
  | u :: us, xs, h, k => by
    simp only [V.renL, RVt] at k ⊢
    obtain ⟨x, rest, a, b, e⟩ := k
    refine ⟨x, rest, a, ?_, RVt.ren hM us _ (fun b hb => h b (by simp [V.refsL, hb])) e⟩
    rcases b with b | ⟨κ, b⟩
    · left; rw [b]; rfl
    · exact .inr ⟨κ, RV.ren hM u _ _ (fun b hb => h b (by simp [V.refsL, hb])) b⟩
end
mutual
theorem V.ren_self {i : Nat} : ∀ u : V, u.ren i i = u
  | .d κ x => rfl
  | .agg κ vs => by simp only [V.ren, V.renL_self vs]
  | .tup vs => by simp only [V.ren, V.renL_self vs]
  | .dtup κs x => rfl
  | .sref b o n => by simp only [V.ren]; congr; cases h : b == i <;> simp_all
  | .lit e ds => rfl
  | .ptr b p κ => by simp only [V.ren]; congr; cases h : b == i <;> simp_all
  | .cptr κ x => rfl
  | .func f a c => by simp only [V.ren, V.renL_self a, V.renL_self c]
  | .iface t v => by simp only [V.ren, V.ren_self v]
  | .map b => by simp only [V.ren]; congr; cases h : b == i <;> simp_all
  | .iter b => by simp only [V.ren]; congr; cases h : b == i <;> simp_all
  | .yield b => by simp only [V.ren]; congr; cases h : b == i <;> simp_all
  | .undef => rfl
theorem V.renL_self {i : Nat} : ∀ us : List V, V.renL i i us = us
  | [] => rfl
  | u :: us => by simp only [V.renL, V.ren_self u, V.renL_self us]
end
theorem renN_self (i b : Nat) : renN i i b = b := by
  unfold renN; cases h : b == i <;> simp_all
theorem RV.agree {M M' : Mem} {μ μ' : List Loc} (hM : M.le M') {u : V} {κ : K} {x : Value} (h : ∀ b ∈ u.refs, ∀ l, μ[b]? = some l → μ'[b]? = some l) (k : RV ty sz M μ u κ x) : RV ty sz M' μ' u κ x := by
  have := RV.ren (i := 0) (j := 0) hM u κ x (fun b hb l hl => by rw [renN_self]; exact h b hb l hl) k
  rwa [V.ren_self] at this
theorem refsL_mem {vs : List V} {b : Nat} : b ∈ V.refsL vs ↔ ∃ v ∈ vs, b ∈ v.refs := by
  induction vs with
  | nil => simp [V.refsL]
  | cons v vs ih => simp [V.refsL, ih]
theorem keep_get : ∀ (live : List Nat) (n : Nat) (vs : List V) (i : Nat), (keep live n vs).getD i .undef = if live.contains (n + i) = true then vs.getD i .undef else .undef
  | live, n, [], i => by simp [keep]
  | live, n, v :: vs, i => by
    cases i with
    | zero => simp only [keep, List.getD_cons_zero, Nat.add_zero]; cases live.contains n <;> simp
    | succ i =>
      simp only [keep, List.getD_cons_succ, keep_get live (n + 1) vs i]
      rw [show n + 1 + i = n + (i + 1) by omega]
theorem keep_length : ∀ (live : List Nat) (n : Nat) (vs : List V), (keep live n vs).length = vs.length
  | _, _, [] => rfl
  | live, n, _ :: vs => by simp [keep, keep_length live (n + 1) vs]
theorem keep_ok {M : Mem} {μ : List Loc} {regs : List V} {tmps : Array Value} (live : List Nat) (h : Regs P ty M μ regs tmps) : Regs P ty M μ (keep live 0 regs) tmps := by
  refine ⟨by rw [keep_length]; exact h.len, fun i => ?_⟩
  rw [keep_get]
  split
  · exact h.get i
  · exact .inl rfl
theorem take_ok {μ : List Loc} {H : List AObj} {w : World} (h : HOk ty P.cellsOf cd X B0 w0 μ H w) {n : Nat} {regs : List V} {tmps : Array Value} (hr : Regs P ty (M_ X μ H w) μ regs tmps)
    (h1 : below n (V.refsL regs) = true) (h2 : below n ((H.take n).map AObj.refs).flatten = true) {base : Nat} (hb : base ≤ n) (hn : base ≤ μ.length) :
    HOk ty P.cellsOf cd X B0 w0 (μ.take n) (H.take n) w ∧ Regs P ty (M_ X (μ.take n) (H.take n) w) (μ.take n) regs tmps ∧ Fut X B0 base μ H w (μ.take n) (H.take n) w := by
  have hget : ∀ {α : Type} {l : List α} {i : Nat} {x : α}, (l.take n)[i]? = some x → l[i]? = some x ∧ i < n := by
    intro α l i x hx
    rw [List.getElem?_take] at hx
    split at hx
    · rename_i hi; exact ⟨hx, hi⟩
    · simp at hx
  have hput : ∀ {α : Type} {l : List α} {i : Nat} {x : α}, l[i]? = some x → i < n → (l.take n)[i]? = some x := by
    intro α l i x hx hi
    rw [List.getElem?_take, if_pos hi]; exact hx
  have hOwn : ∀ i b, Own (μ.take n) (H.take n) i b → Own μ H i b := by
    rintro i b ⟨l, o, a1, a2, a3⟩
    exact ⟨l, o, (hget a1).1, (hget a2).1, a3⟩
  have hUses : ∀ i b, Uses (μ.take n) (H.take n) i b → Uses μ H i b := by
    rintro i b ⟨l, o, a1, a2, a3⟩
    exact ⟨l, o, (hget a1).1, (hget a2).1, a3⟩
  have hle : (memOf w (X ++ owned μ H)).le (memOf w (X ++ owned (μ.take n) (H.take n))) := by
    refine memOf_leX (fun _ _ _ => rfl) (fun b hb => .inl ?_)
    obtain ⟨j, hj⟩ := mem_owned.1 hb
    exact mem_owned.2 ⟨j, hOwn j b hj⟩
  refine ⟨⟨by simp [h.len], ?_, fun i j b a1 a2 => h.inj i j b (hOwn _ _ a1) (hUses _ _ a2), fun i b a1 => h.low i b (hUses _ _ a1), h.resv, h.below, h.size⟩, ⟨hr.len, fun i => ?_⟩, ⟨fun i hi => ?_, ?_, hle, Below.refl _ _, fun _ h => h⟩⟩
  · intro i l o a1 a2
    have hobj := h.obj i l o (hget a1).1 (hget a2).1
    cases o with
    | var κ u =>
      simp only [ObjOk] at hobj ⊢
      obtain ⟨b1, b2, b3, b4, cs, et, x, b5, b6, b7⟩ := hobj
      refine ⟨b1, b2, b3, b4, cs, et, x, b5, RV.agree hle (fun b hb l' hl' => hput hl' ?_) b6, b7⟩
      have : b ∈ ((H.take n).map AObj.refs).flatten := List.mem_flatten.2 ⟨AObj.refs (.var κ u), List.mem_map.2 ⟨_, List.mem_of_getElem? a2, rfl⟩, hb⟩
      have := List.all_eq_true.1 h2 b this
      simpa using this
    | row e own nn ds => exact ObjOk.mono hle (μ := μ) (fun i l hl => hl) (fun _ _ => rfl) hobj |> fun k => by simp only [ObjOk] at k ⊢; exact k
    | map a e es => exact ObjOk.mono hle (μ := μ) (fun i l hl => hl) (fun _ _ => rfl) hobj |> fun k => by simp only [ObjOk] at k ⊢; exact k
    | iter s pos => exact hobj
    | loop st f id u =>
      simp only [ObjOk] at hobj ⊢
      obtain ⟨r, b1, b2, b3, b6⟩ := hobj
      refine ⟨r, b1, b2, b3, RV.agree hle (fun b hb l' hl' => hput hl' ?_) b6⟩
      have : b ∈ ((H.take n).map AObj.refs).flatten := List.mem_flatten.2 ⟨AObj.refs (.loop st f id u), List.mem_map.2 ⟨_, List.mem_of_getElem? a2, rfl⟩, hb⟩
      have := List.all_eq_true.1 h2 b this
      simpa using this
    | dead => trivial
  · rcases hr.get i with hu | ⟨κ, hu⟩
    · exact .inl hu
    · refine .inr ⟨κ, RV.agree hle (fun b hb l hl => hput hl ?_) hu⟩
      have hi : i < regs.length := by
        rcases Nat.lt_or_ge i regs.length with h | h
        · exact h
        · rw [List.getD_eq_getElem?_getD, List.getElem?_eq_none h] at hu; simp [RV] at hu
      have : b ∈ V.refsL regs := refsL_mem.2 ⟨regs.getD i .undef, by rw [List.getD_eq_getElem?_getD, List.getElem?_eq_getElem hi]; simp, hb⟩
      have := List.all_eq_true.1 h1 b this
      simpa using this
  · rw [List.getElem?_take, if_pos (by omega)]
  · simp; omega
theorem ownB_ren {l : Loc} {o : AObj} {i j : Nat} : ownB l (o.ren i j) = ownB l o := by cases o <;> rfl
theorem usesB_ren {l : Loc} {o : AObj} {i j : Nat} : usesB l (o.ren i j) = usesB l o := by cases o <;> rfl
theorem relocate_ok {μ : List Loc} {H : List AObj} {w : World} (h : HOk ty P.cellsOf cd X B0 w0 μ H w) {base tgt r : Nat} {regs : List V} {tmps : Array Value} (hr : Regs P ty (M_ X μ H w) μ regs tmps) {regs' : List V} {H' : List AObj}
    (he : relocate base tgt r regs H = some (regs', H')) (hb0 : base ≤ μ.length) :
    ∃ μ', HOk ty P.cellsOf cd X B0 w0 μ' H' w ∧ Regs P ty (M_ X μ' H' w) μ' regs' tmps ∧ Fut X B0 base μ H w μ' H' w ∧ μ'.length = μ.length ∧ H'.length = H.length := by
  unfold relocate at he
  split at he
  · rename_i b off n hreg
    cases hbt : (b == tgt) with
    | true =>
      rw [hbt] at he
      simp only [cond_true, Option.some.injEq, Prod.mk.injEq] at he
      obtain ⟨rfl, rfl⟩ := he
      exact ⟨μ, h, hr, ⟨fun _ _ => rfl, hb0, Mem.le_refl _, Below.refl _ _, fun _ h => h⟩, rfl, rfl⟩
    | false =>
      rw [hbt] at he
      simp only [cond_false] at he
      have hne : b ≠ tgt := by simpa using hbt
      cases hc : (decide (base ≤ tgt) && !((V.refsL regs).contains tgt) && !((H.map AObj.refs).flatten.contains tgt)) with
      | false => rw [hc] at he; simp at he
      | true =>
        rw [hc] at he
        simp only [cond_true] at he
        simp only [Bool.and_eq_true, decide_eq_true_eq, Bool.not_eq_true'] at hc
        obtain ⟨⟨hbase, hnr⟩, hnh⟩ := hc
        have hnr' : tgt ∉ V.refsL regs := fun hm => by rw [List.contains_iff_mem.2 hm] at hnr; simp at hnr
        have hnh' : tgt ∉ (H.map AObj.refs).flatten := fun hm => by rw [List.contains_iff_mem.2 hm] at hnh; simp at hnh
        split at he
        · rename_i o hdead hob
          simp only [Option.some.injEq, Prod.mk.injEq] at he
          obtain ⟨rfl, rfl⟩ := he
          obtain ⟨lb, hlb⟩ := h.loc hob
          obtain ⟨lt, hlt⟩ := h.loc hdead
          have htl : tgt < μ.length := (List.getElem?_eq_some_iff.1 hlt).1
          have hbl : b < μ.length := (List.getElem?_eq_some_iff.1 hlb).1
          have hmu : ∀ i, (μ.set tgt lb)[i]? = if tgt = i then some lb else μ[i]? := by
            intro i
            rw [List.getElem?_set]
            split
            · rename_i hi; subst hi; simp [htl]
            · rfl
          have hH : ∀ i, (((H.set tgt o).set b .dead).map (AObj.ren b tgt))[i]? = if b = i then some .dead else if tgt = i then some (o.ren b tgt) else (H[i]?).map (AObj.ren b tgt) := by
            intro i
            rw [List.getElem?_map, List.getElem?_set, List.getElem?_set]
            have e1 : b < (H.set tgt o).length := by simp [← h.len, hbl]
            have e2 : tgt < H.length := by rw [← h.len]; exact htl
            by_cases hi : b = i
            · subst hi; have e3 : b < H.length := by rw [← h.len]; exact hbl
              simp [e3, AObj.ren]
            · by_cases hi2 : tgt = i
              · subst hi2; simp [hi, e2]
              · simp [hi, hi2]
          have hren : ∀ c, c ≠ tgt → ∀ l, μ[c]? = some l → (μ.set tgt lb)[renN b tgt c]? = some l := by
            intro c hc l hl
            rw [hmu]
            unfold renN
            cases hcb : (c == b) with
            | true =>
              have : c = b := by simpa using hcb
              subst this
              rw [hlb] at hl
              simpa using hl
            | false => simp only [cond_false]; rw [if_neg (fun h => hc h.symm)]; exact hl
          have hOwn : ∀ i c, Own (μ.set tgt lb) (((H.set tgt o).set b .dead).map (AObj.ren b tgt)) i c → i ≠ b ∧ Own μ H (if tgt = i then b else i) c := by
            rintro i c ⟨l, o', a1, a2, a3⟩
            rw [hH] at a2
            rw [hmu] at a1
            by_cases hi : b = i
            · rw [if_pos hi] at a2; simp only [Option.some.injEq] at a2; subst a2; simp [ownB] at a3
            · rw [if_neg hi] at a2
              refine ⟨fun h => hi h.symm, ?_⟩
              by_cases hi2 : tgt = i
              · rw [if_pos hi2] at a1 a2 ⊢
                simp only [Option.some.injEq] at a1 a2
                subst a1 a2
                exact ⟨lb, o, hlb, hob, by rwa [ownB_ren] at a3⟩
              · rw [if_neg hi2] at a1 a2 ⊢
                cases hHi : H[i]? with
                | none => rw [hHi] at a2; simp at a2
                | some oi =>
                  rw [hHi] at a2
                  simp only [Option.map_some, Option.some.injEq] at a2
                  subst a2
                  exact ⟨l, oi, a1, hHi, by rwa [ownB_ren] at a3⟩
          have hUses : ∀ i c, Uses (μ.set tgt lb) (((H.set tgt o).set b .dead).map (AObj.ren b tgt)) i c → i ≠ b ∧ Uses μ H (if tgt = i then b else i) c := by
            rintro i c ⟨l, o', a1, a2, a3⟩
            rw [hH] at a2
            rw [hmu] at a1
            by_cases hi : b = i
            · rw [if_pos hi] at a2; simp only [Option.some.injEq] at a2; subst a2; simp [usesB] at a3
            · rw [if_neg hi] at a2
              refine ⟨fun h => hi h.symm, ?_⟩
              by_cases hi2 : tgt = i
              · rw [if_pos hi2] at a1 a2 ⊢
                simp only [Option.some.injEq] at a1 a2
                subst a1 a2
                exact ⟨lb, o, hlb, hob, by rwa [usesB_ren] at a3⟩
              · rw [if_neg hi2] at a1 a2 ⊢
                cases hHi : H[i]? with
                | none => rw [hHi] at a2; simp at a2
                | some oi =>
                  rw [hHi] at a2
                  simp only [Option.map_some, Option.some.injEq] at a2
                  subst a2
                  exact ⟨l, oi, a1, hHi, by rwa [usesB_ren] at a3⟩
          have hle : (memOf w (X ++ owned μ H)).le (memOf w (X ++ owned (μ.set tgt lb) (((H.set tgt o).set b .dead).map (AObj.ren b tgt)))) := by
            refine memOf_leX (fun _ _ _ => rfl) (fun c hc => .inl ?_)
            obtain ⟨j, hj⟩ := mem_owned.1 hc
            exact mem_owned.2 ⟨_, (hOwn j c hj).2⟩
          have hobj : ∀ (i : Nat) (l : Loc) (oi : AObj), μ[i]? = some l → H[i]? = some oi → ObjOk ty P.cellsOf cd (memOf w (X ++ owned (μ.set tgt lb) (((H.set tgt o).set b .dead).map (AObj.ren b tgt)))) (μ.set tgt lb) w l (oi.ren b tgt) := by
            intro i l oi a1 a2
            have hk := h.obj i l oi a1 a2
            cases oi with
            | var κ u =>
              simp only [ObjOk, AObj.ren] at hk ⊢
              obtain ⟨b1, b2, b3, b4, cs, et, x, b5, b6, b7⟩ := hk
              refine ⟨b1, b2, b3, b4, cs, et, x, b5, RV.ren hle u κ x (fun c hc l' hl' => hren c ?_ l' hl') b6, b7⟩
              rintro rfl
              exact hnh' (List.mem_flatten.2 ⟨AObj.refs (.var κ u), List.mem_map.2 ⟨_, List.mem_of_getElem? a2, rfl⟩, hc⟩)
            | row e own nn ds => exact ObjOk.mono hle (μ := μ) (μ' := μ) (fun _ _ h => h) (fun _ _ => rfl) hk |> fun k => by simp only [ObjOk, AObj.ren] at k ⊢; exact k
            | map a e es => exact ObjOk.mono hle (μ := μ) (μ' := μ) (fun _ _ h => h) (fun _ _ => rfl) hk |> fun k => by simp only [ObjOk, AObj.ren] at k ⊢; exact k
            | iter s pos => exact hk
            | loop st f id u =>
              simp only [ObjOk, AObj.ren] at hk ⊢
              obtain ⟨q, b1, b2, b3, b6⟩ := hk
              refine ⟨q, b1, b2, b3, RV.ren hle u _ _ (fun c hc l' hl' => hren c ?_ l' hl') b6⟩
              rintro rfl
              exact hnh' (List.mem_flatten.2 ⟨AObj.refs (.loop st f id u), List.mem_map.2 ⟨_, List.mem_of_getElem? a2, rfl⟩, hc⟩)
            | dead => trivial
          refine ⟨μ.set tgt lb, ⟨by simp [h.len], ?_, ?_, fun i c hc => h.low _ c (hUses i c hc).2, h.resv, h.below, h.size⟩, ⟨by simp [hr.len], fun i => ?_⟩, ⟨fun i hi => ?_, by simp; omega, hle, Below.refl _ _, fun _ h => h⟩, by simp, by simp⟩
          · intro i l oi a1 a2
            rw [hH] at a2
            rw [hmu] at a1
            by_cases hi : b = i
            · rw [if_pos hi] at a2; simp only [Option.some.injEq] at a2; subst a2; trivial
            · rw [if_neg hi] at a2
              by_cases hi2 : tgt = i
              · rw [if_pos hi2] at a1 a2
                simp only [Option.some.injEq] at a1 a2
                subst a1 a2
                exact hobj b lb o hlb hob
              · rw [if_neg hi2] at a1 a2
                cases hHi : H[i]? with
                | none => rw [hHi] at a2; simp at a2
                | some o' =>
                  rw [hHi] at a2
                  simp only [Option.map_some, Option.some.injEq] at a2
                  subst a2
                  exact hobj i l o' a1 hHi
          · intro i j c hi hj
            obtain ⟨n1, k1⟩ := hOwn i c hi
            obtain ⟨n2, k2⟩ := hUses j c hj
            have := h.inj _ _ c k1 k2
            by_cases e1 : tgt = i <;> by_cases e2 : tgt = j
            · omega
            · rw [if_pos e1, if_neg e2] at this; omega
            · rw [if_neg e1, if_pos e2] at this; omega
            · rw [if_neg e1, if_neg e2] at this; exact this
          · have hgd : (regs.map (V.ren b tgt)).getD i .undef = (regs.getD i .undef).ren b tgt := by
              simp only [List.getD_eq_getElem?_getD, List.getElem?_map]
              cases regs[i]? <;> rfl
            rw [hgd]
            rcases hr.get i with hu | ⟨κ, hu⟩
            · left; rw [hu]; rfl
            · refine .inr ⟨κ, RV.ren hle _ _ _ (fun c hc l hl => hren c ?_ l hl) hu⟩
              rintro rfl
              have hi : i < regs.length := by
                rcases Nat.lt_or_ge i regs.length with h | h
                · exact h
                · rw [List.getD_eq_getElem?_getD, List.getElem?_eq_none h] at hu; simp [RV] at hu
              exact hnr' (refsL_mem.2 ⟨regs.getD i .undef, by rw [List.getD_eq_getElem?_getD, List.getElem?_eq_getElem hi]; simp, hc⟩)
          · rw [hmu, if_neg (by omega)]
        · simp at he
  · simp at he
theorem relocAll_ok {w : World} {base : Nat} {tmps : Array Value} : ∀ (tg : List (Nat × Nat)) {μ : List Loc} {H : List AObj} {regs regs' : List V} {H' : List AObj}, HOk ty P.cellsOf cd X B0 w0 μ H w → Regs P ty (M_ X μ H w) μ regs tmps → base ≤ μ.length →
    relocAll base tg regs H = some (regs', H') → ∃ μ', HOk ty P.cellsOf cd X B0 w0 μ' H' w ∧ Regs P ty (M_ X μ' H' w) μ' regs' tmps ∧ Fut X B0 base μ H w μ' H' w ∧ μ'.length = μ.length ∧ H'.length = H.length
  | [], μ, H, regs, regs', H', h, hr, hb, he => by
    simp only [relocAll, Option.some.injEq, Prod.mk.injEq] at he
    obtain ⟨rfl, rfl⟩ := he
    exact ⟨μ, h, hr, ⟨fun _ _ => rfl, hb, Mem.le_refl _, Below.refl _ _, fun _ h => h⟩, rfl, rfl⟩
  | (r, tgt) :: tg, μ, H, regs, regs', H', h, hr, hb, he => by
    simp only [relocAll] at he
    split at he
    · rename_i regs1 H1 h1
      obtain ⟨μ1, g1, g2, g3, g4, g5⟩ := relocate_ok h hr h1 hb
      obtain ⟨μ2, k1, k2, k3, k4, k5⟩ := relocAll_ok tg g1 g2 (by omega) he
      exact ⟨μ2, k1, k2, Fut.trans (Nat.le_refl _) g3 k3, by omega, by omega⟩
    · simp at he
theorem headSt_ok {μ : List Loc} {H : List AObj} {w : World} (h : HOk ty P.cellsOf cd X B0 w0 μ H w) {base n0 : Nat} {live : List Nat} {tg : List (Nat × Nat)} {regs regs' : List V} {H' : List AObj} {tmps : Array Value} (hr : Regs P ty (M_ X μ H w) μ regs tmps)
    (hb : base ≤ μ.length) (hbn : base ≤ n0) (he : headSt base live tg n0 regs H = some (regs', H')) :
    ∃ μ', HOk ty P.cellsOf cd X B0 w0 μ' H' w ∧ Regs P ty (M_ X μ' H' w) μ' regs' tmps ∧ Fut X B0 base μ H w μ' H' w := by
  unfold headSt at he
  split at he
  · rename_i regs1 H1 h1
    obtain ⟨μ1, g1, g2, g3, g4, g5⟩ := relocAll_ok tg h (keep_ok live hr) hb h1
    cases hc : (below n0 (V.refsL regs1) && below n0 ((H1.take n0).map AObj.refs).flatten) with
    | false => rw [hc] at he; simp at he
    | true =>
      rw [hc] at he
      simp only [cond_true, Option.some.injEq, Prod.mk.injEq] at he
      obtain ⟨rfl, rfl⟩ := he
      simp only [Bool.and_eq_true] at hc
      obtain ⟨k1, k2, k3⟩ := take_ok g1 g2 hc.1 hc.2 hbn (by omega)
      exact ⟨_, k1, k2, Fut.trans (Nat.le_refl _) g3 k3⟩
  · simp at he
end
end Go.AM
namespace Go.AM
open Go
section
variable {R : Type} {E : Env} {hint : Hint} {H : List AObj} {regs regs' : List V} {k : V → Eff → Option R} {r : R}
theorem vals_congr {ty : Nat → K} : ∀ (xs : List Operand) (ts : List Nat), (∀ x ∈ xs, ∀ κ, val regs' κ x = val regs κ x) → vals regs' ty xs ts = vals regs ty xs ts
  | [], ts, _ => by cases ts <;> rfl
  | x :: xs, [], _ => rfl
  | x :: xs, t :: ts, h => by
    simp only [vals]
    rw [h x (by simp), vals_congr xs ts fun y hy => h y (by simp [hy])]
theorem setParts_congr {ty : Nat → K} {κ : K} : ∀ (ps : List (Nat × Operand)) (vs : List V), (∀ p ∈ ps, ∀ κ, val regs' κ p.2 = val regs κ p.2) → setParts ty H regs' κ ps vs = setParts ty H regs κ ps vs
  | [], vs, _ => rfl
  | (i, x) :: ps, vs, h => by
    simp only [setParts]
    rw [h (i, x) (by simp)]
    split
    · exact setParts_congr ps _ fun p hp => h p (by simp [hp])
    · rfl
theorem setElems_congr {ty : Nat → K} {κ : K} : ∀ (ps : List (Nat × Operand)) (vs : List D), (∀ p ∈ ps, ∀ κ, val regs' κ p.2 = val regs κ p.2) → setElems ty H regs' κ ps vs = setElems ty H regs κ ps vs
  | [], vs, _ => rfl
  | (i, x) :: ps, vs, h => by
    simp only [setElems]
    rw [h (i, x) (by simp)]
    split
    · cases V.pure true H (val regs κ x) with
      | some y => exact setElems_congr ps _ fun p hp => h p (by simp [hp])
      | none => rfl
    · rfl
theorem bound_congr {n : Int} {o : Option Operand} (h : ∀ x ∈ o.toArray, ∀ κ, val regs' κ x = val regs κ x) : bound regs' n o = bound regs n o := by
  cases o with
  | none => rfl
  | some x => simp only [bound]; rw [h x (by simp)]
theorem evOp_congr {t : Nat} {op : Op} (h : ∀ x ∈ op.operands.toList, ∀ κ, val regs' κ x = val regs κ x) : evOp E hint H regs' t op k = evOp E hint H regs t op k := by
  cases op with
  | call c =>
    simp only [Op.operands] at h
    simp only [evOp]
    have hv := fun ts => vals_congr (regs := regs) (regs' := regs') (ty := E.ty) c.args.toList ts fun x hx => h x (by simp at hx ⊢; simp [Call.operands, hx])
    simp only [hv]
    split
    · rfl
    · rename_i fo hc
      rw [h fo (by simp [Call.operands, hc])]
    · rfl
  | build t ps =>
    simp only [evOp]
    rw [setParts_congr _ _ fun p hp => h p.2 (by simp [Op.operands]; exact ⟨p.1, by simpa using hp⟩)]
  | buildSlice t n ps =>
    simp only [evOp]
    split
    · rw [setElems_congr _ _ fun p hp => h p.2 (by simp [Op.operands]; exact ⟨p.1, by simpa using hp⟩)]
    · rfl
  | slice t x lo hi mx =>
    simp only [Op.operands] at h
    simp only [evOp, evSliceA, evSlice]
    rw [h x (by simp)]
    have h1 := fun n => bound_congr (regs := regs) (regs' := regs') (n := n) (o := lo) fun x hx => h x (by simp at hx ⊢; simp [hx])
    have h2 := fun n => bound_congr (regs := regs) (regs' := regs') (n := n) (o := hi) fun x hx => h x (by simp at hx ⊢; simp [hx])
    have h3 := fun n => bound_congr (regs := regs) (regs' := regs') (n := n) (o := mx) fun x hx => h x (by simp at hx ⊢; simp [hx])
    simp only [h1, h2, h3]
  | makeFunc fn f c =>
    simp only [Op.operands] at h
    have h1 : f.toList.map (val regs' .bad) = f.toList.map (val regs .bad) := List.map_congr_left fun x hx => h x (by simp at hx ⊢; simp [hx]) _
    have h2 : c.toList.map (val regs' .bad) = c.toList.map (val regs .bad) := List.map_congr_left fun x hx => h x (by simp at hx ⊢; simp [hx]) _
    simp only [evOp, h1, h2]
  | _ => (first | rfl | (simp only [Op.operands, List.mem_cons, List.not_mem_nil, or_false, forall_eq_or_imp, forall_eq] at h; simp only [evOp, evInsert, evLookup, evInsertU, evLookupU, evEntryU, evEntryStore, h]))
variable {H' : List AObj}
def Agree (bs : List Nat) (H H' : List AObj) : Prop := ∀ b ∈ bs, H'[b]? = H[b]?
theorem Agree.sub {bs cs : List Nat} (h : Agree bs H H') (hs : ∀ c ∈ cs, c ∈ bs) : Agree cs H H' := fun b hb => h b (hs b hb)
theorem val_refs (κ κ' : K) (x : Operand) : (val regs κ x).refs = (val regs κ' x).refs := by
  cases x with
  | tmp t => rfl
  | const v =>
    simp only [val]
    cases constD v with
    | none => rfl
    | some y => simp only []; split <;> split <;> rfl
  | global g => rfl
  | func f => rfl
theorem Agree.op {op : Op} (h : Agree (opRefs regs op) H H') (κ : K) {x : Operand} (hx : x ∈ op.operands.toList) : Agree (val regs κ x).refs H H' := by
  refine h.sub fun c hc => ?_
  simp only [opRefs, List.mem_flatten, List.mem_map]
  exact ⟨_, ⟨x, hx, rfl⟩, by rw [val_refs .bad κ]; exact hc⟩
mutual
theorem pure_local {st : Bool} : ∀ (v : V), Agree v.refs H H' → V.pure st H' v = V.pure st H v
  | .d _ _, _ => rfl
  | .agg _ vs, h => by simp only [V.pure]; rw [pureL_local vs (by simpa only [V.refs] using h)]
  | .tup vs, h => by simp only [V.pure]; rw [pureL_local vs (by simpa only [V.refs] using h)]
  | .dtup _ _, _ => rfl
  | .sref b off len, h => by simp only [V.pure]; rw [h b (by simp [V.refs])]
  | .lit _ _, _ => rfl
  | .iface t v, h => by simp only [V.pure]; rw [pure_local v (by simpa only [V.refs] using h)]
  | .ptr _ _ _, _ => rfl
  | .cptr _ _, _ => rfl
  | .func _ _ _, _ => rfl
  | .map _, _ => rfl
  | .iter _, _ => rfl
  | .yield _, _ => rfl
  | .undef, _ => rfl
theorem pureL_local {st : Bool} : ∀ (vs : List V), Agree (V.refsL vs) H H' → V.pureL st H' vs = V.pureL st H vs
  | [], _ => rfl
  | v :: vs, h => by
    simp only [V.pureL]
    rw [pure_local v (h.sub fun c hc => by simp [V.refsL, hc]), pureL_local vs (h.sub fun c hc => by simp [V.refsL, hc])]
end
theorem kindIs_local {ty : Nat → K} {v : V} {κ : K} (h : Agree v.refs H H') : kindIs ty H' v κ = kindIs ty H v κ := by
  cases v with
  | sref b _ _ => simp only [kindIs]; rw [h b (by simp [V.refs])]
  | map b => simp only [kindIs]; rw [h b (by simp [V.refs])]
  | _ => rfl
theorem allKinds_local {ty : Nat → K} : ∀ (vs : List V) (ts : List Nat), Agree (V.refsL vs) H H' → allKinds ty H' vs ts = allKinds ty H vs ts
  | [], ts, _ => by cases ts <;> rfl
  | v :: vs, [], _ => rfl
  | v :: vs, t :: ts, h => by
    simp only [allKinds]
    rw [kindIs_local (h.sub fun c hc => by simp [V.refsL, hc]), allKinds_local vs ts (h.sub fun c hc => by simp [V.refsL, hc])]
theorem vals_refs {ty : Nat → K} : ∀ (xs : List Operand) (ts : List Nat), ∀ c ∈ V.refsL (vals regs ty xs ts), ∃ x ∈ xs, c ∈ (val regs .bad x).refs
  | [], ts, c, h => by cases ts <;> simp [vals, V.refsL] at h
  | x :: xs, [], c, h => by simp [vals, V.refsL] at h
  | x :: xs, t :: ts, c, h => by
    simp only [vals, V.refsL, List.mem_append] at h
    rcases h with h | h
    · exact ⟨x, by simp, by rw [val_refs .bad (ty t)]; exact h⟩
    · obtain ⟨y, hy, hc⟩ := vals_refs xs ts c h
      exact ⟨y, by simp [hy], hc⟩
theorem setParts_local {ty : Nat → K} {κ : K} : ∀ (ps : List (Nat × Operand)) (vs : List V), (∀ p ∈ ps, ∀ κ, Agree (val regs κ p.2).refs H H') → setParts ty H' regs κ ps vs = setParts ty H regs κ ps vs
  | [], vs, _ => rfl
  | (i, x) :: ps, vs, h => by
    simp only [setParts]
    rw [kindIs_local (h (i, x) (by simp) _)]
    split
    · exact setParts_local ps _ fun p hp => h p (by simp [hp])
    · rfl
theorem setElems_local {ty : Nat → K} {κ : K} : ∀ (ps : List (Nat × Operand)) (vs : List D), (∀ p ∈ ps, ∀ κ, Agree (val regs κ p.2).refs H H') → setElems ty H' regs κ ps vs = setElems ty H regs κ ps vs
  | [], vs, _ => rfl
  | (i, x) :: ps, vs, h => by
    simp only [setElems]
    rw [kindIs_local (h (i, x) (by simp) _), pure_local _ (h (i, x) (by simp) _)]
    split
    · cases V.pure true H (val regs κ x) with
      | some y => exact setElems_local ps _ fun p hp => h p (by simp [hp])
      | none => rfl
    · rfl
theorem eqNil_local {v : V} {y : D} (h : Agree v.refs H H') : eqNil H' v y = eqNil H v y := by
  unfold eqNil; split <;> first | rfl | rw [h _ (by simp [V.refs])]
theorem litElems_local {ty : Nat → K} {e : Nat} {v : V} {κ : K} (h : Agree v.refs H H') : litElems H' ty e v κ = litElems H ty e v κ := by
  unfold litElems; repeat' (first | rfl | rw [h _ (by simp [V.refs])] | split)
theorem evLen_local {vs : List V} {ts : List Nat} (h : Agree (V.refsL vs) H H') : evLen E H' vs ts k = evLen E H vs ts k := by
  unfold evLen
  split
  · rename_i v t
    have h1 : Agree v.refs H H' := h.sub fun c hc => by simp [V.refsL, hc]
    cases v with
    | map b => simp only []; rw [h1 b (by simp [V.refs])]
    | _ => rfl
  · rfl
theorem evSlice_local {κ : K} {v : V} {lo hi mx : Option Operand} (h : Agree v.refs H H') : evSlice H' κ v regs lo hi mx k = evSlice H κ v regs lo hi mx k := by
  unfold evSlice; simp only [Bool.cond_eq_ite]; repeat' (first | rfl | rw [h _ (by simp [V.refs])] | split)
theorem evAppend_local {inpl : Bool} {vs : List V} {ts : List Nat} {v : V} {e : Eff} (h : Agree (V.refsL vs) H H') (he : (evAppend E inpl H vs ts fun v e => some (v, e)) = some (v, e)) (hs : e.still = true) : (evAppend E inpl H' vs ts fun v e => some (v, e)) = some (v, e) := by
  unfold evAppend at he ⊢
  split at he
  · rename_i s x t u
    have h1 : Agree s.refs H H' := h.sub fun c hc => by simp [V.refsL, hc]
    have h2 : Agree x.refs H H' := h.sub fun c hc => by simp [V.refsL, hc]
    simp only []
    split at he
    · rename_i e' _
      rw [litElems_local h2]
      split at he
      · rename_i ys hy
        simp only [Bool.cond_eq_ite] at he ⊢
        cases s with
        | d κ y =>
          split at he
          · split at he
            · split at he
              · simp at he; obtain ⟨_, rfl⟩ := he; simp [Eff.still] at hs
              · simp at he
            · simp at he
          · simp_all
          · simp_all
          · simp at he
        | lit e'' ds =>
          simp only [hy] at he ⊢
          split at he
          · rename_i hh; rw [if_pos hh]
            cases ds with
            | nil =>
              simp only [] at he ⊢
              split at he
              · simp at he; obtain ⟨_, rfl⟩ := he; simp [Eff.still] at hs
              · simp at he
            | cons d ds =>
              cases ys with
              | nil => exact he
              | cons y ys =>
                simp only [List.isEmpty_cons, Bool.false_eq_true, if_false] at he ⊢
                split at he
                · simp at he; obtain ⟨_, rfl⟩ := he; simp [Eff.still] at hs
                · simp at he
          · simp at he
        | sref b off len =>
          simp only [hy] at he ⊢
          rw [h1 b (by simp [V.refs])]
          split at he
          · split at he
            · split at he
              · split at he
                · simp at he; obtain ⟨_, rfl⟩ := he; simp [Eff.still] at hs
                · simp at he
              · split at he
                · simp at he; obtain ⟨_, rfl⟩ := he; simp [Eff.still] at hs
                · simp at he
            · simp at he
          · simp at he
        | _ => simp at he
      · simp at he
    · simp at he
  · simp at he
theorem evClear_local {vs : List V} {ts : List Nat} {v : V} {e : Eff} (he : (evClear E H vs ts fun v e => some (v, e)) = some (v, e)) (hs : e.still = true) : False := by
  unfold evClear at he
  repeat' (split at he <;> try (simp at he))
  all_goals (obtain ⟨_, _, rfl⟩ := he; simp [Eff.still] at hs)
theorem evCopy_local {vs : List V} {ts : List Nat} {v : V} {e : Eff} (he : (evCopy E H vs ts fun v e => some (v, e)) = some (v, e)) (hs : e.still = true) : False := by
  unfold evCopy at he
  repeat' (split at he <;> try (simp at he))
  all_goals (obtain ⟨_, _, rfl⟩ := he; simp [Eff.still] at hs)
theorem evCon_local {c : Con} {fn : Func} {args : List V} {v : V} {e : Eff} (h : Agree (V.refsL args) H H') (he : (evCon E H c fn args fun v e => some (v, e)) = some (v, e)) (hs : e.still = true) : (evCon E H' c fn args fun v e => some (v, e)) = some (v, e) := by
  unfold evCon at he ⊢
  cases hp : c.plain with
  | true =>
    rw [hp] at he
    simp only [cond_true] at he ⊢
    rw [pureL_local _ h]
    exact he
  | false =>
    rw [hp] at he
    simp only [cond_false] at he ⊢
    cases hr : V.refsL args with
    | nil =>
      rw [hr] at he
      simp only [List.foldl_nil] at he ⊢
      rw [pureL_local _ h]
      split at he
      · split at he
        · cases hf : c.fresh with
          | true =>
            rw [hf] at he
            simp only [cond_true] at he ⊢
            split at he
            · split at he
              · simp at he; obtain ⟨_, rfl⟩ := he; simp [Eff.still] at hs
              · simp at he; obtain ⟨_, rfl⟩ := he; simp [Eff.still] at hs
              · simp at he
            · simp at he
          | false =>
            rw [hf] at he
            simpa only [cond_false] using he
        · simp at he
      · simp at he
    | cons b bs =>
      rw [hr] at he
      split at he
      · split at he
        · cases hf : c.fresh with
          | true =>
            rw [hf] at he
            simp only [cond_true] at he ⊢
            split at he
            · split at he
              · simp at he; obtain ⟨_, rfl⟩ := he; simp [Eff.still] at hs
              · simp at he; obtain ⟨_, rfl⟩ := he; simp [Eff.still] at hs
              · simp at he
            · simp at he
          | false =>
            rw [hf] at he
            simp at he; obtain ⟨_, rfl⟩ := he; simp [Eff.still] at hs
        · simp at he
      · simp at he
end
end Go.AM
namespace Go.AM
open Go
section
variable {E : Env} {hint : Hint} {H H' : List AObj} {regs : List V}
theorem evOp_local {t : Nat} {op : Op} {v : V} {e : Eff} (h : Agree (opRefs regs op) H H') (he : (evOp E hint H regs t op fun v e => some (v, e)) = some (v, e)) (hs : e.still = true) :
    (evOp E hint H' regs t op fun v e => some (v, e)) = some (v, e) := by
  have hx : ∀ {x : Operand} (κ : K), x ∈ op.operands.toList → Agree (val regs κ x).refs H H' := fun κ hx => h.op κ hx
  cases op with
  | alloc t =>
    simp only [evOp, Bool.cond_eq_ite] at he
    split at he
    · obtain ⟨ob, _, he⟩ := varObjK_some he
      simp only [Option.some.injEq, Prod.mk.injEq] at he; obtain ⟨_, rfl⟩ := he; simp [Eff.still] at hs
    · simp at he
  | box t x =>
    simp only [evOp] at he
    split at he
    · obtain ⟨ob, _, he⟩ := varObjK_some he
      simp only [Option.some.injEq, Prod.mk.injEq] at he; obtain ⟨_, rfl⟩ := he; simp [Eff.still] at hs
    · simp at he
  | build t ps =>
    simp only [evOp] at he ⊢
    rw [setParts_local _ _ fun p hp κ => hx κ (by simp [Op.operands]; exact ⟨p.1, by simpa using hp⟩)]
    exact he
  | buildSlice t n ps =>
    have h1 := fun κ vs => setElems_local (ty := E.ty) (κ := κ) ps.toList vs fun p hp κ => hx κ (by simp [Op.operands]; exact ⟨p.1, by simpa using hp⟩)
    simp only [evOp, h1] at he ⊢
    simp only [Bool.cond_eq_ite] at he ⊢
    split at he
    · split at he
      · split at he
        · simp at he
        · rename_i h3
          rw [if_neg h3]
          split at he
          · simp at he; obtain ⟨_, rfl⟩ := he; simp [Eff.still] at hs
          · rename_i h4; rw [if_neg h4]; exact he
      · simp at he
    · simp at he
  | load t x =>
    have h1 := hx .bad (x := x) (by simp [Op.operands])
    simp only [evOp] at he ⊢
    split at he
    · rename_i b p κ hv
      rw [hv] at h1
      rw [h1 b (by simp [V.refs])]
      exact he
    · exact he
    · simp at he
  | store t a x =>
    simp only [evOp, Bool.cond_eq_ite] at he
    repeat' (split at he <;> try (simp at he))
    all_goals first | (obtain ⟨_, _, rfl⟩ := he; simp [Eff.still] at hs) | (obtain ⟨_, rfl⟩ := he; simp [Eff.still] at hs) | (obtain ⟨_, _, _, rfl⟩ := he; simp [Eff.still] at hs)
  | binOp op t x y u =>
    have h1 := hx (E.ty t) (x := x) (by simp [Op.operands])
    simp only [evOp] at he ⊢
    rw [kindIs_local h1]
    simp only [eqNil_local h1]
    exact he
  | convert s d x =>
    have h1 := hx (E.ty s) (x := x) (by simp [Op.operands])
    simp only [evOp] at he ⊢
    cases hok : (!(E.ty s).ok) with
    | true => rw [hok] at he; simp at he
    | false =>
      rw [hok] at he
      simp only [cond_false] at he ⊢
      split at he
      · exact he
      · exact he
      · exact he
      · split at he
        · simp only [Bool.cond_eq_ite] at he
          split at he
          · simp at he; obtain ⟨_, rfl⟩ := he; simp [Eff.still] at hs
          · simp at he
        · simp at he
      · simp only [kindIs_local h1, pure_local _ h1]
        exact he
      · simp at he
  | makeInterface t x =>
    have h1 := hx (E.ty t) (x := x) (by simp [Op.operands])
    simp only [evOp] at he ⊢
    split at he
    · simp at he
    · simp at he
    · split at he
      · exact he
      · rw [kindIs_local h1]; exact he
    · simp at he
  | makeSlice t l c =>
    simp only [evOp, Bool.cond_eq_ite] at he
    repeat' (split at he <;> try (simp at he))
    all_goals (obtain ⟨_, _, rfl⟩ := he; simp [Eff.still] at hs)
  | slice t x lo hi mx =>
    have h1 := hx (E.ty t) (x := x) (by simp [Op.operands])
    simp only [evOp, evSliceA] at he ⊢
    split at he
    · rename_i n e b κ' hk hv
      rw [hv] at h1
      rw [h1 b (by simp [V.refs])]
      exact he
    · rw [evSlice_local h1]
      exact he
  | indexAddr t x i =>
    have h1 := hx .bad (x := x) (by simp [Op.operands])
    simp only [evOp] at he ⊢
    split at he
    · split at he <;> try exact he
      rename_i b off len _ hv
      rw [hv] at h1
      rw [h1 _ (by simp [V.refs])]
      exact he
    · simp at he
  | makeMap t r =>
    simp only [evOp] at he
    split at he
    · simp at he; obtain ⟨_, rfl⟩ := he; simp [Eff.still] at hs
    · simp at he
  | insert t m key v =>
    simp only [evOp] at he
    cases hu : hint.unk
    · simp only [hu, cond_false, evInsert] at he
      repeat' (split at he <;> try (simp at he))
      obtain ⟨q, hq, _⟩ := assocK_ok [] _ (by simp) he.2
      simp at hq; obtain ⟨_, rfl⟩ := hq; simp [Eff.still] at hs
    · simp only [hu, cond_true, evInsertU] at he
      repeat' (split at he <;> try (simp at he))
      obtain ⟨_, _, rfl⟩ := he; simp [Eff.still] at hs
  | mapUpdate t m key v =>
    simp only [evOp] at he
    cases hu : hint.unk
    · simp only [hu, cond_false, evInsert] at he
      repeat' (split at he <;> try (simp at he))
      obtain ⟨q, hq, _⟩ := assocK_ok [] _ (by simp) he.2
      simp at hq; obtain ⟨_, rfl⟩ := hq; simp [Eff.still] at hs
    · simp only [hu, cond_true, evInsertU] at he
      repeat' (split at he <;> try (simp at he))
      obtain ⟨_, _, rfl⟩ := he; simp [Eff.still] at hs
  | mapEntry t m key =>
    simp only [evOp] at he
    cases hu : hint.unk
    · simp [hu] at he
    · simp only [hu, cond_true, evEntryU, Bool.cond_eq_ite] at he
      repeat' (split at he <;> try (simp at he))
      obtain ⟨_, _, _, rfl⟩ := he; simp [Eff.still] at hs
  | entryStore t m i v =>
    simp only [evOp, evEntryStore, Bool.cond_eq_ite] at he
    repeat' (split at he <;> try (simp at he))
    obtain ⟨_, _, _, rfl⟩ := he; simp [Eff.still] at hs
  | lookup t m key ok =>
    have h1 := hx (E.ty t) (x := m) (by simp [Op.operands])
    simp only [evOp] at he ⊢
    cases hu : hint.unk
    · simp only [hu, cond_false, evLookup] at he ⊢
      split at he
      · rename_i b hk hv
        rw [hv] at h1
        rw [h1 _ (by simp [V.refs])]
        exact he
      · simp at he
    · simp only [hu, cond_true, evLookupU] at he ⊢
      split at he
      · rename_i b hk hv
        rw [hv] at h1
        rw [h1 _ (by simp [V.refs])]
        exact he
      · simp at he
  | range t x =>
    simp only [evOp] at he
    split at he
    · simp at he; obtain ⟨_, rfl⟩ := he; simp [Eff.still] at hs
    · simp at he
  | next it b =>
    have h1 := hx .bad (x := it) (by simp [Op.operands])
    simp only [evOp] at he ⊢
    split at he
    · rename_i b hv
      rw [hv] at h1
      rw [h1 b (by simp [V.refs])]
      exact he
    · simp at he
  | call c =>
    simp only [evOp] at he ⊢
    have hargs : ∀ ts, Agree (V.refsL (vals regs E.ty c.args.toList ts)) H H' := fun ts b hb => by
      obtain ⟨x, hxx, hc⟩ := vals_refs _ _ b hb
      exact hx .bad (x := x) (by simp at hxx ⊢; simp [Op.operands, Call.operands, hxx]) b hc
    split at he
    · rename_i b hc
      split at he
      · rename_i hl
        rw [if_pos hl]
        cases b with
        | len => simp only [evBuiltin] at he ⊢; rw [evLen_local (hargs _)]; exact he
        | append => exact evAppend_local (hargs _) he hs
        | clear => exact absurd (evClear_local he hs) id
        | copy => exact absurd (evCopy_local he hs) id
        | max => exact he
        | min => exact he
        | _ => simp [evBuiltin] at he
      · simp at he
    · split at he
      · split at he
        · rename_i p hp
          split at he
          · split at he
            · rename_i hb
              rw [if_pos ⟨hb.1, by rw [allKinds_local _ _ (hargs _)]; exact hb.2⟩]
              unfold evPrim at he ⊢
              rw [pureL_local _ (hargs _)]
              exact he
            · simp at he
          · simp at he
        split at he
        · rename_i cc fn hcon hfn
          split at he
          · rename_i hb
            rw [if_pos ⟨hb.1, hb.2.1, by rw [allKinds_local _ _ (hargs _)]; exact hb.2.2⟩]
            exact evCon_local (hargs _) he hs
          · simp at he
        · simp at he
      · simp at he
    · simp at he
  | _ => (first | exact he | (simp [evOp] at he))
end
end Go.AM
namespace Go.AM
open Go
section
variable {E : Env} {hint : Hint} {os : List Oper} {rs : List (Option Nat)}
def dsts (os : List Oper) : List (Option Nat) := os.map (·.dst)
def Wanted (os : List Oper) (o : Oper) (regs : List V) : Prop :=
  ∀ j want, o.guard = some (j, want) → ∃ t, (dsts os).getD j none = some t ∧ regs.getD t .undef = .d .bool (.bool want)
def Unwanted (os : List Oper) (o : Oper) (regs : List V) : Prop :=
  ∃ j want t, o.guard = some (j, want) ∧ (dsts os).getD j none = some t ∧ (regs.getD t .undef = .d .bool (.bool !want) ∨ regs.getD t .undef = .tup [])
def Out (E : Env) (hint : Hint) (os : List Oper) (rs : List (Option Nat)) (i : Nat) (o : Oper) (regs : List V) (H : List AObj) (v : V) (e : Eff) (l : Log) : Prop :=
  (Wanted os o regs ∧ (evOpD E hint H regs o.type o.op (rs.getD i none) fun v e => some (v, e)) = some (v, e) ∧ l = ⟨i, opReads regs o.op ++ rsvR (rs.getD i none), e.writes H.length, e.still, (rs.getD i none).isSome, mapTag o.op⟩) ∨
  (Unwanted os o regs ∧ v = .tup [] ∧ e = .none ∧ l = ⟨i, [], [], true, false, .none⟩)
theorem getD_setD {regs : List V} {d t : Nat} {v : V} (h : d ≠ t) : (setD regs (some d) v).getD t .undef = regs.getD t .undef := by
  simp only [setD, List.getD_eq_getElem?_getD]
  rw [List.getElem?_set_ne h]
theorem val_setD {regs : List V} {d : Nat} {v : V} {x : Operand} (κ : K) (h : isTmp d x = false) : val (setD regs (some d) v) κ x = val regs κ x := by
  cases x with
  | tmp t => exact getD_setD (by simp [isTmp] at h; exact fun e => h e.symm)
  | _ => rfl
theorem setD_comm {regs : List V} {d d' : Option Nat} {v v' : V} (h : ∀ t, d = some t → d' ≠ some t) : setD (setD regs d v) d' v' = setD (setD regs d' v') d v := by
  cases d with
  | none => rfl
  | some t => cases d' with
    | none => rfl
    | some t' =>
      simp only [setD]
      exact List.set_comm _ _ (by rintro rfl; exact h t rfl rfl)
theorem evOpD_congr {H : List AObj} {regs regs' : List V} {t : Nat} {op : Op} {rsv : Option Nat} {R : Type} {k : V → Eff → Option R} (h : ∀ x ∈ op.operands.toList, ∀ κ, val regs' κ x = val regs κ x) :
    evOpD E hint H regs' t op rsv k = evOpD E hint H regs t op rsv k := by
  cases rsv with
  | none => exact evOp_congr h
  | some b =>
    cases op with
    | box t x => simp only [evOpD, h x (by simp [Op.operands])]
    | _ => rfl
theorem evOpD_some {H : List AObj} {regs : List V} {t b : Nat} {op : Op} {v : V} {e : Eff} (h : (evOpD E hint H regs t op (some b) fun v e => some (v, e)) = some (v, e)) : ∃ ob κ, v = .ptr b [] κ ∧ e = .set b ob ∧ H[b]? = some .dead := by
  unfold evOpD at h
  simp only [] at h
  split at h
  · rename_i hb
    split at h
    · rw [Bool.cond_eq_ite] at h
      split at h
      · obtain ⟨ob, _, h⟩ := varObjK_some h
        simp only [Option.some.injEq, Prod.mk.injEq] at h
        exact ⟨ob, _, h.1.symm, h.2.symm, hb⟩
      · simp at h
    · split at h
      · obtain ⟨ob, _, h⟩ := varObjK_some h
        simp only [Option.some.injEq, Prod.mk.injEq] at h
        exact ⟨ob, _, h.1.symm, h.2.symm, hb⟩
      · simp at h
    · simp at h
  · simp at h
theorem evOpD_alo {H H' : List AObj} {regs : List V} {t b : Nat} {op : Op} {v : V} {e : Eff} (ha : Agree (opReads regs op ++ rsvR (some b)) H H') (h : (evOpD E hint H regs t op (some b) fun v e => some (v, e)) = some (v, e)) :
    (evOpD E hint H' regs t op (some b) fun v e => some (v, e)) = some (v, e) := by
  have hb : H'[b]? = H[b]? := ha b (by simp [rsvR])
  unfold evOpD at h ⊢
  simp only [] at h ⊢
  rw [hb]
  cases op with
  | box t x =>
    have hk := kindIs_local (ty := E.ty) (κ := E.ty t) (Agree.op (op := .box t x) (ha.sub fun c hc => List.mem_append_left _ hc) (E.ty t) (x := x) (by simp [Op.operands]))
    cases hh : H[b]? with
    | none => rw [hh] at h; simp at h
    | some ob =>
      rw [hh] at h
      cases ob <;> first | (simp at h; done) | (dsimp only at h ⊢; rw [hk]; exact h)
  | _ => exact h
theorem Out.regs {i : Nat} {o : Oper} {regs : List V} {H : List AObj} {v u : V} {e : Eff} {l : Log} {d : Option Nat} (hd : ∀ t, d = some t → names (dsts os) o t = false) :
    Out E hint os rs i o (setD regs d u) H v e l ↔ Out E hint os rs i o regs H v e l := by
  cases d with
  | none => exact Iff.rfl
  | some t =>
    have ht := hd t rfl
    simp only [names, Bool.or_eq_false_iff, List.any_eq_false] at ht
    obtain ⟨⟨h1, h2⟩, h3⟩ := ht
    have hv : ∀ x ∈ o.op.operands.toList, ∀ κ, val (setD regs (some t) u) κ x = val regs κ x := fun x hx κ => val_setD κ (by simpa using h1 x hx)
    have hop : opRefs (setD regs (some t) u) o.op = opRefs regs o.op := by
      unfold opRefs
      congr 1
      exact List.map_congr_left fun x hx => by rw [hv x hx]
    have hop' : opReads (setD regs (some t) u) o.op = opReads regs o.op := by
      unfold opReads
      split
      · rfl
      · rfl
      · exact hop
    have hg : ∀ j want t', o.guard = some (j, want) → (dsts os).getD j none = some t' → (setD regs (some t) u).getD t' .undef = regs.getD t' .undef := by
      intro j want t' hg hj
      refine getD_setD ?_
      rintro rfl
      rw [hg] at h2
      simp only [hj] at h2
      simp at h2
    have hw : Wanted os o (setD regs (some t) u) ↔ Wanted os o regs := by
      constructor <;> intro h j want hgj <;> obtain ⟨t', a, b⟩ := h j want hgj <;> exact ⟨t', a, by first | rwa [hg j want t' hgj a] at b | rwa [hg j want t' hgj a]⟩
    have hu : Unwanted os o (setD regs (some t) u) ↔ Unwanted os o regs := by
      constructor <;> rintro ⟨j, want, t', a, b, c⟩ <;> exact ⟨j, want, t', a, b, by first | rwa [hg j want t' a b] at c | rwa [hg j want t' a b]⟩
    unfold Out
    rw [hw, hu, evOpD_congr hv, hop']
theorem Out.still {i : Nat} {o : Oper} {regs : List V} {H : List AObj} {v : V} {e : Eff} {l : Log} (h : Out E hint os rs i o regs H v e l) : l.still = e.still := by
  rcases h with ⟨_, _, rfl⟩ | ⟨_, _, rfl, rfl⟩ <;> rfl
theorem still_app {e : Eff} (h : e.still = true) (H : List AObj) : e.app H = H := by
  cases e with
  | none => rfl
  | freeze bs => cases bs with
    | nil => rfl
    | cons b bs => simp [Eff.still] at h
  | _ => simp [Eff.still] at h
theorem still_writes {e : Eff} (h : e.still = true) (n : Nat) : e.writes n = [] := by
  cases e with
  | none => rfl
  | freeze bs => cases bs with
    | nil => rfl
    | cons b bs => simp [Eff.still] at h
  | _ => simp [Eff.still] at h
theorem evOp_reads {H H' : List AObj} {regs : List V} {t : Nat} {op : Op} {v : V} {e : Eff} (h : Agree (opReads regs op) H H') (he : (evOp E hint H regs t op fun v e => some (v, e)) = some (v, e)) (hs : e.still = true) :
    (evOp E hint H' regs t op fun v e => some (v, e)) = some (v, e) := by
  cases op with
  | move x => simpa only [evOp] using he
  | assign x => simpa only [evOp] using he
  | _ => exact evOp_local h he hs
theorem Out.heap {i : Nat} {o : Oper} {regs : List V} {H H' : List AObj} {v : V} {e : Eff} {l : Log} (hs : l.still = true) (ha : Agree l.reads H H') (h : Out E hint os rs i o regs H v e l) : Out E hint os rs i o regs H' v e l := by
  have he := h.still
  rw [hs] at he
  rcases h with ⟨h1, h2, rfl⟩ | h
  · cases hrs : rs.getD i none with
    | none =>
      rw [hrs] at h2
      simp only [hrs, rsvR, List.append_nil] at ha
      refine .inl ⟨h1, by rw [hrs]; exact evOp_reads ha h2 he.symm, ?_⟩
      rw [still_writes he.symm, still_writes he.symm, hrs]
    | some b =>
      rw [hrs] at h2
      obtain ⟨ob, κ, _, rfl, _⟩ := evOpD_some h2
      simp [Eff.still] at he
  · exact .inr h
theorem frz1_get {H : List AObj} {b c : Nat} (h : c ≠ b) : (freeze1 H b)[c]? = H[c]? := by
  unfold freeze1
  split
  · exact List.getElem?_set_ne (Ne.symm h)
  · rfl
theorem frzs_get {c : Nat} : ∀ (bs : List Nat) (H : List AObj), c ∉ bs → (bs.foldl freeze1 H)[c]? = H[c]?
  | [], H, _ => rfl
  | b :: bs, H, h => by
    simp only [List.mem_cons, not_or] at h
    rw [List.foldl_cons, frzs_get bs _ h.2, frz1_get h.1]
theorem frzs_length : ∀ (bs : List Nat) (H : List AObj), (bs.foldl freeze1 H).length = H.length
  | [], H => rfl
  | b :: bs, H => by
    rw [List.foldl_cons, frzs_length bs]
    unfold freeze1
    split <;> simp
theorem get_snoc {H : List AObj} {o : AObj} {c : Nat} (h : c ≠ H.length) : (H ++ [o])[c]? = H[c]? := by
  rcases Nat.lt_or_ge c H.length with h1 | h1
  · exact List.getElem?_append_left h1
  · rw [List.getElem?_eq_none h1, List.getElem?_eq_none (by simp; omega)]
theorem app_get {e : Eff} {H : List AObj} {c : Nat} (h : c ∉ e.writes H.length) : (e.app H)[c]? = H[c]? := by
  cases e with
  | none => rfl
  | set b o => simp [Eff.writes] at h; exact List.getElem?_set_ne (Ne.symm h)
  | new o => simp [Eff.writes] at h; exact get_snoc h
  | kill b o =>
    simp [Eff.writes] at h
    simp only [Eff.app]
    rw [get_snoc (by simpa using h.2)]
    exact List.getElem?_set_ne (Ne.symm h.1)
  | freeze bs => exact frzs_get bs H h
  | freezeNew bs o =>
    simp [Eff.writes] at h
    simp only [Eff.app]
    rw [get_snoc (by rw [frzs_length]; exact h.1)]
    exact frzs_get bs H h.2
theorem disj_ok {as1 bs : List Nat} (h : disj as1 bs = true) {a : Nat} (ha : a ∈ as1) : a ∉ bs := by
  have := List.all_eq_true.1 h a ha
  simpa using this
theorem agree_app {e : Eff} {H : List AObj} {as1 : List Nat} (h : disj as1 (e.writes H.length) = true) : Agree as1 H (e.app H) := fun _ hb => app_get (disj_ok h hb)
theorem Out.writes {i : Nat} {o : Oper} {regs : List V} {H : List AObj} {v : V} {e : Eff} {l : Log} (h : Out E hint os rs i o regs H v e l) : l.writes = e.writes H.length := by
  rcases h with ⟨_, _, rfl⟩ | ⟨_, _, rfl, rfl⟩ <;> rfl
theorem mapTag_look {op : Op} {t m k : Nat} (h : mapTag op = .look t m k) : op = .lookup t (.tmp m) (.tmp k) false := by
  unfold mapTag at h
  split at h
  · simp only [MTag.look.injEq] at h; obtain ⟨rfl, rfl, rfl⟩ := h; rfl
  · simp at h
  · simp at h
theorem mapTag_ent {op : Op} {t m k : Nat} (h : mapTag op = .ent t m k) : op = .mapEntry t (.tmp m) (.tmp k) := by
  unfold mapTag at h
  split at h
  · simp at h
  · simp only [MTag.ent.injEq] at h; obtain ⟨rfl, rfl, rfl⟩ := h; rfl
  · simp at h
theorem assoc_snoc {ty : Nat → K} {κ : K} {x v : D} (hx : D.eqv ty eqDepth x x κ = some true) : ∀ {es : List (D × D)} {i : Nat}, assoc ty κ x es i = some none → assoc ty κ x (es ++ [(x, v)]) i = some (some (i + es.length))
  | [], i, _ => by simp [assoc, hx]
  | (a, b) :: es, i, h => by
    simp only [List.cons_append, assoc] at h ⊢
    split at h
    · simp at h
    · rename_i he
      rw [assoc_snoc hx h]
      simp; omega
    · simp at h
theorem assoc_set {ty : Nat → K} {κ : K} {x v : D} (hx : D.eqv ty eqDepth x x κ = some true) : ∀ {es : List (D × D)} {i j : Nat}, assoc ty κ x es i = some (some (i + j)) → assoc ty κ x (es.set j (x, v)) i = some (some (i + j)) ∧ j < es.length
  | [], i, j, h => by simp [assoc] at h
  | (a, b) :: es, i, j, h => by
    simp only [assoc] at h
    split at h
    · simp at h
      have hj : j = 0 := by omega
      subst hj
      simp [assoc, hx]
    · rename_i he
      cases j with
      | zero =>
        exfalso
        have : ∀ {es : List (D × D)} {i q : Nat}, assoc ty κ x es i = some (some q) → i ≤ q := by
          intro es
          induction es with
          | nil => intro i q h; simp [assoc] at h
          | cons e es ih =>
            intro i q h
            obtain ⟨a, b⟩ := e
            simp only [assoc] at h
            split at h
            · simp at h; omega
            · have := ih h; omega
            · simp at h
        have := this h
        omega
      | succ j =>
        rw [show i + (j + 1) = i + 1 + j by omega] at h
        obtain ⟨h1, h2⟩ := assoc_set (v := v) hx h
        refine ⟨?_, by simp; omega⟩
        simp only [List.set_cons_succ, assoc, he, h1]
        rw [show i + 1 + j = i + (j + 1) by omega]
    · simp at h
theorem look_none {H : List AObj} {regs : List V} {tx t m k : Nat} {vx : V} {ex : Eff} (hx : (evOp E hint H regs tx (.lookup t (.tmp m) (.tmp k) false) fun v e => some (v, e)) = some (vx, ex)) : ex = .none := by
  simp only [evOp] at hx
  cases hu : hint.unk with
  | true =>
    rw [hu] at hx
    simp only [cond_true, evLookupU] at hx
    repeat' (split at hx <;> try (simp at hx))
    exact hx.2.2.symm
  | false =>
    rw [hu] at hx
    simp only [cond_false, evLookup] at hx
    repeat' (split at hx <;> try (simp at hx))
    obtain ⟨q, hq, _⟩ := assocK_ok [] _ (by simp) hx.2
    simp at hq; exact hq.2.symm
theorem look_entry {H : List AObj} {regs : List V} {tx ty' t m k : Nat} {vx vy : V} {ex ey : Eff} (hx : (evOp E hint H regs tx (.lookup t (.tmp m) (.tmp k) false) fun v e => some (v, e)) = some (vx, ex))
    (hy : (evOp E hint H regs ty' (.mapEntry t (.tmp m) (.tmp k)) fun v e => some (v, e)) = some (vy, ey)) :
    ex = .none ∧ (evOp E hint (ey.app H) regs tx (.lookup t (.tmp m) (.tmp k) false) fun v e => some (v, e)) = some (vx, .none) := by
  simp only [evOp] at hx hy ⊢
  cases hu : hint.unk with
  | false => rw [hu] at hy; simp at hy
  | true =>
  rw [hu] at hx hy
  simp only [cond_true] at hx hy ⊢
  unfold evLookupU at hx ⊢
  unfold evEntryU at hy
  split at hx
  case h_2 => simp at hx
  rename_i a e b hk hm
  rw [hm, hk] at hy
  simp only at hy
  split at hx
  case h_2 => simp at hx
  rename_i a' e' es hH
  rw [hH] at hy
  simp only at hy
  split at hx
  case h_2 => simp at hx
  rename_i κ x hv
  rw [hv] at hy
  simp only at hy
  split at hx
  case isFalse => simp at hx
  rename_i hc
  rw [if_pos hc] at hy
  rw [Bool.cond_eq_ite] at hy
  split at hy
  case isFalse => simp at hy
  rename_i he
  have hxx : D.eqv E.ty eqDepth x x κ = some true := by
    unfold eqT at he
    split at he
    · assumption
    · simp at he
  split at hx
  case h_2 => simp at hx
  rename_i r hr
  rw [hr] at hy
  simp only [Option.some.injEq, Prod.mk.injEq, cond_false] at hx hy
  obtain ⟨rfl, rfl⟩ := hx
  obtain ⟨_, rfl⟩ := hy
  refine ⟨rfl, ?_⟩
  have hlt : b < H.length := (List.getElem?_eq_some_iff.1 hH).1
  obtain ⟨rfl, rfl, hc2, hc3⟩ := hc
  simp only [Eff.app]
  rw [List.getElem?_set_self hlt]
  simp only
  rw [if_pos ⟨trivial, trivial, hc2, hc3⟩]
  cases r with
  | none =>
    have h1 := assoc_snoc (v := entryVal es (zero E.ty (E.ty e')) none) hxx hr
    simp only [entrySet]
    rw [h1]
    simp [entryVal]
  | some j =>
    obtain ⟨h1, h2⟩ := assoc_set (v := entryVal es (zero E.ty (E.ty e')) (some j)) (j := j) hxx (by rw [Nat.zero_add]; exact hr)
    rw [Nat.zero_add] at h1
    simp only [entrySet]
    rw [h1]
    simp [entryVal, h2]
theorem out_swap {i j : Nat} {x y : Oper} {regs : List V} {H : List AObj} {vx vy : V} {ex ey : Eff} {lx ly : Log}
    (hx : Out E hint os rs i x regs H vx ex lx) (hy : Out E hint os rs j y (setD regs x.dst vx) (ex.app H) vy ey ly) (hap : apart (dsts os) x y = true) (hin : indep lx ly = true) :
    Out E hint os rs j y regs H vy ey ly ∧ Out E hint os rs i x (setD regs y.dst vy) (ey.app H) vx ex lx ∧
      setD (setD regs x.dst vx) y.dst vy = setD (setD regs y.dst vy) x.dst vx ∧ ey.app (ex.app H) = ex.app (ey.app H) := by
  simp only [apart, Bool.and_eq_true] at hap
  have h1 : ∀ t, x.dst = some t → names (dsts os) y t = false := fun t ht => by have := hap.1; rw [ht] at this; simpa using this
  have h2 : ∀ t, y.dst = some t → names (dsts os) x t = false := fun t ht => by have := hap.2; rw [ht] at this; simpa using this
  have hdd : ∀ t, x.dst = some t → y.dst ≠ some t := fun t ht hyt => by
    have := h1 t ht
    simp [names, hyt] at this
  rw [Out.regs h1] at hy
  simp only [indep, Bool.or_eq_true, Bool.and_eq_true] at hin
  rcases hin with ((⟨hs, hd⟩ | ⟨hs, hd⟩) | ⟨⟨⟨⟨hs1, hs2⟩, hd1⟩, hd2⟩, hd3⟩) | htag
  · have hex : ex.still = true := by rw [← hx.still]; exact hs
    rw [still_app hex] at hy
    rw [hy.writes] at hd
    exact ⟨hy, (Out.regs h2).2 (Out.heap hs (agree_app hd) hx), setD_comm hdd, by rw [still_app hex, still_app hex]⟩
  · have hey : ey.still = true := by rw [← hy.still]; exact hs
    rw [hx.writes] at hd
    refine ⟨Out.heap hs (fun b hb => (agree_app hd b hb).symm) hy, ?_, setD_comm hdd, by rw [still_app hey, still_app hey]⟩
    rw [still_app hey]
    exact (Out.regs h2).2 hx
  · rcases hx with ⟨w1, x1, rfl⟩ | ⟨_, _, _, rfl⟩
    case inr => simp at hs1
    rcases hy with ⟨w2, y1, rfl⟩ | ⟨_, _, _, rfl⟩
    case inr => simp at hs2
    dsimp only at hs1 hs2 hd1 hd2 hd3
    cases hrx : rs.getD i none with
    | none => rw [hrx] at hs1; simp at hs1
    | some bx =>
      cases hry : rs.getD j none with
      | none => rw [hry] at hs2; simp at hs2
      | some by' =>
        rw [hrx] at x1 hd1
        rw [hry] at y1 hd2
        have x1' := x1
        have y1' := y1
        obtain ⟨obx, κx, _, rfl, _⟩ := evOpD_some x1'
        obtain ⟨oby, κy, _, rfl, _⟩ := evOpD_some y1'
        simp only [Eff.writes] at hd1 hd2 hd3
        have hne : bx ≠ by' := by
          have := disj_ok hd3 (a := bx) (by simp)
          simpa using this
        have a1 : Agree (opReads regs y.op ++ rsvR (some by')) ((Eff.set bx obx).app H) H := fun c hc => by
          have := disj_ok hd2 hc
          simp only [List.mem_singleton] at this
          exact (List.getElem?_set_ne (Ne.symm this)).symm
        have a2 : Agree (opReads regs x.op ++ rsvR (some bx)) H ((Eff.set by' oby).app H) := fun c hc => by
          have := disj_ok hd1 hc
          simp only [List.mem_singleton] at this
          exact List.getElem?_set_ne (Ne.symm this)
        refine ⟨.inl ⟨w2, by rw [hry]; exact evOpD_alo a1 y1, by rw [hry]; rfl⟩, (Out.regs h2).2 (.inl ⟨w1, by rw [hrx]; exact evOpD_alo a2 x1, by rw [hrx]; rfl⟩), setD_comm hdd, ?_⟩
        simp only [Eff.app]
        exact List.set_comm _ _ hne
  · rcases hx with ⟨w1, x1, rfl⟩ | ⟨_, _, _, rfl⟩
    case inr => simp [MTag.ok] at htag
    rcases hy with ⟨w2, y1, rfl⟩ | ⟨_, _, _, rfl⟩
    case inr => cases hmt : mapTag x.op <;> simp [hmt, MTag.ok] at htag
    simp only at htag
    obtain ⟨t, m, k, hxo, hyo⟩ : ∃ t m k, x.op = .lookup t (.tmp m) (.tmp k) false ∧ y.op = .mapEntry t (.tmp m) (.tmp k) := by
      cases hmx : mapTag x.op with
      | look t m k =>
        cases hmy : mapTag y.op with
        | ent t' m' k' =>
          rw [hmx, hmy] at htag
          simp only [MTag.ok, Bool.and_eq_true] at htag
          obtain ⟨e1, e2, e3⟩ := htag
          obtain rfl := Nat.eq_of_beq_eq_true e1
          obtain rfl := Nat.eq_of_beq_eq_true e2
          obtain rfl := Nat.eq_of_beq_eq_true e3
          exact ⟨t, m, k, mapTag_look hmx, mapTag_ent hmy⟩
        | _ => rw [hmx, hmy] at htag; simp [MTag.ok] at htag
      | _ => rw [hmx] at htag; simp [MTag.ok] at htag
    cases hrx : rs.getD i none with
    | some bx =>
      rw [hrx] at x1
      obtain ⟨_, _, hv, _⟩ := evOpD_some x1
      rw [hxo] at x1
      simp only [evOpD] at x1
      split at x1 <;> simp at x1
    | none =>
    cases hry : rs.getD j none with
    | some by' =>
      rw [hry, hyo] at y1
      simp only [evOpD] at y1
      split at y1 <;> simp at y1
    | none =>
    rw [hrx, hxo] at x1
    rw [hry, hyo] at y1
    simp only [evOpD] at x1 y1
    have hex : ex = .none := look_none x1
    subst hex
    rw [show Eff.none.app H = H from rfl] at y1 ⊢
    obtain ⟨_, hx2⟩ := look_entry x1 y1
    refine ⟨.inl ⟨w2, by rw [hry, hyo]; exact y1, by rw [hry]⟩, (Out.regs h2).2 (.inl ⟨w1, by rw [hrx, hxo]; exact hx2, by rw [hrx]; rfl⟩), setD_comm hdd, rfl⟩
def Seg (E : Env) (hint : Hint) (os : List Oper) (rs : List (Option Nat)) : List Nat → List V → List AObj → List V → List AObj → List Log → Prop
  | [], r, H, r', H', ls => r' = r ∧ H' = H ∧ ls = []
  | i :: is, r, H, r', H', ls => ∃ o v e l ls', os[i]? = some o ∧ ls = l :: ls' ∧ l.i = i ∧ Out E hint os rs i o r H v e l ∧ Seg E hint os rs is (setD r o.dst v) (e.app H) r' H' ls'
def PairC (ms : List Nat) (x y : Log) : Prop := waits ms x.i y.i = true ∨ indep x y = true
def Apart (ms : List Nat) (os : List Oper) : Prop := ∀ i j x y, i < j → os[i]? = some x → os[j]? = some y → waits ms i j = true ∨ apart (dsts os) x y = true
theorem seg_front {ms : List Nat} (hA : Apart ms os) {i : Nat} {post : List Nat} {r' : List V} {H' : List AObj} : ∀ (pre : List Nat) {r : List V} {H : List AObj} {ls : List Log},
    Seg E hint os rs (pre ++ i :: post) r H r' H' ls → ls.Pairwise (PairC ms) → (∀ a ∈ pre, a < i ∧ waits ms a i = false) →
    ∃ li lt, Seg E hint os rs (i :: (pre ++ post)) r H r' H' (li :: lt) ∧ lt.Pairwise (PairC ms) ∧ li ∈ ls ∧ ∀ l ∈ lt, l ∈ ls
  | [], r, H, ls, h, hp, _ => by
    have h0 := h
    simp only [List.nil_append, Seg] at h
    obtain ⟨o, v, e, l, ls', h1, rfl, h2, h3, h4⟩ := h
    exact ⟨l, ls', h0, (List.pairwise_cons.1 hp).2, by simp, fun l hl => by simp [hl]⟩
  | a :: pre, r, H, ls, h, hp, hw => by
    simp only [List.cons_append, Seg] at h
    obtain ⟨x, vx, ex, la, ls1, hx, rfl, hla, hox, hseg⟩ := h
    obtain ⟨hp1, hp2⟩ := List.pairwise_cons.1 hp
    obtain ⟨li, lt, g1, g2, g3, g4⟩ := seg_front hA pre hseg hp2 fun b hb => hw b (by simp [hb])
    simp only [Seg] at g1
    obtain ⟨y, vy, ey, l, ls', hy, heq, hli, hoy, hseg2⟩ := g1
    obtain ⟨rfl, rfl⟩ : li = l ∧ lt = ls' := by simpa using heq
    obtain ⟨hai, hwa⟩ := hw a (by simp)
    have hap : apart (dsts os) x y = true := (hA a i x y hai hx hy).resolve_left (by simp [hwa])
    have hin : indep la li = true := by
      rcases hp1 li g3 with h | h
      · rw [hla, hli, hwa] at h; simp at h
      · exact h
    obtain ⟨k1, k2, k3, k4⟩ := out_swap hox hoy hap hin
    refine ⟨li, la :: lt, ?_, ?_, by simp [g3], ?_⟩
    · simp only [List.cons_append, Seg]
      refine ⟨y, vy, ey, li, la :: lt, hy, rfl, hli, k1, x, vx, ex, la, lt, hx, rfl, hla, k2, ?_⟩
      rw [← k3, ← k4]
      exact hseg2
    · exact List.pairwise_cons.2 ⟨fun l hl => hp1 l (g4 l hl), g2⟩
    · intro l hl
      rcases List.mem_cons.1 hl with rfl | hl
      · simp
      · simp [g4 l hl]
end
end Go.AM
namespace Go.AM
open Go
theorem maskOf_bit {acc : List Nat} {i : Nat} : ∀ (es : List Edge) (s : Nat), (es.foldl (fun s e => bif Region.binds .any e then s ||| (2 ^ e.on ||| acc.getD e.on 0) else s) s).testBit i = true →
    s.testBit i = true ∨ ∃ e ∈ es, Region.binds .any e = true ∧ (e.on = i ∨ (acc.getD e.on 0).testBit i = true)
  | [], s, h => .inl h
  | e :: es, s, h => by
    rw [List.foldl_cons] at h
    rcases maskOf_bit es _ h with h | ⟨e', h1, h2⟩
    · cases hb : Region.binds .any e with
      | false => rw [hb] at h; exact .inl h
      | true =>
        rw [hb] at h
        simp only [cond_true, Nat.testBit_or, Bool.or_eq_true, Nat.testBit_two_pow, decide_eq_true_eq] at h
        rcases h with h | h | h
        · exact .inl h
        · exact .inr ⟨e, by simp, hb, .inl h⟩
        · exact .inr ⟨e, by simp, hb, .inr h⟩
    · exact .inr ⟨e', by simp [h1], h2⟩
theorem masksFrom_spec {S : Nat → Prop} {all : List Oper} (hS : ∀ j o, all[j]? = some o → S j → ∀ e ∈ o.after.toList, Region.binds .any e = true → S e.on) {i : Nat} :
    ∀ (os pre : List Oper) (acc : List Nat), all = pre ++ os → acc.length = pre.length → (∀ j, S j → (acc.getD j 0).testBit i = true → S i) → ∀ j, S j → ((masksFrom acc os).getD j 0).testBit i = true → S i
  | [], pre, acc, _, _, h, j, hj, hb => h j hj hb
  | o :: os, pre, acc, ha, hl, h, j, hj, hb => by
    refine masksFrom_spec hS os (pre ++ [o]) (acc ++ [maskOf acc o.after.toList]) (by simp [ha]) (by simp [hl]) ?_ j hj hb
    intro j hj hb
    rcases Nat.lt_trichotomy j acc.length with hlt | heq | hgt
    · rw [List.getD_eq_getElem?_getD, List.getElem?_append_left hlt, ← List.getD_eq_getElem?_getD] at hb
      exact h j hj hb
    · rw [List.getD_eq_getElem?_getD, heq] at hb
      simp only [List.getElem?_concat_length, Option.getD_some] at hb
      rcases maskOf_bit _ 0 hb with h0 | ⟨e, h1, h2, h3⟩
      · simp at h0
      · have he : S e.on := hS j o (by rw [ha, heq, hl]; simp) hj e h1 h2
        rcases h3 with rfl | h3
        · exact he
        · exact h _ he h3
    · rw [List.getD_eq_getElem?_getD, List.getElem?_eq_none (by simp; omega)] at hb
      simp at hb
theorem waits_spec {S : Nat → Prop} {all : List Oper} (hS : ∀ j o, all[j]? = some o → S j → ∀ e ∈ o.after.toList, Region.binds .any e = true → S e.on) {i j : Nat} (hj : S j) (hw : waits (masks all) i j = true) : S i :=
  masksFrom_spec hS all [] [] rfl rfl (by simp) j hj hw
theorem backward_spec {all : List Oper} : ∀ (l pre : List Oper), all = pre ++ l → backward all pre.length l = true → ∀ j o, pre.length ≤ j → all[j]? = some o → ∀ e ∈ o.after.toList, Region.binds .any e = true → e.on < j
  | [], pre, ha, _, j, o, hj, ho => by rw [ha] at ho; simp [List.getElem?_eq_none (show (pre ++ []).length ≤ j by simpa using hj)] at ho; rw [List.getElem?_eq_none hj] at ho; simp at ho
  | x :: l, pre, ha, h, j, o, hj, ho => by
    simp only [backward, Bool.and_eq_true, List.all_eq_true, Bool.or_eq_true, Bool.not_eq_true', decide_eq_true_eq] at h
    rcases Nat.lt_or_ge pre.length j with hlt | hge
    · exact backward_spec l (pre ++ [x]) (by simp [ha]) (by simpa using h.2) j o (by simp; omega) ho
    · have hjl : j = pre.length := by omega
      subst hjl
      rw [ha] at ho
      simp at ho
      subst ho
      intro e he hb
      exact (h.1 e he).resolve_left (by simp [hb])
theorem apartFrom_spec {ms : List Nat} {ds : List (Option Nat)} {all : List Oper} {x : Oper} {i : Nat} : ∀ (l pre : List Oper), all = pre ++ l → apartFrom ms ds x i pre.length l = true → ∀ j y, pre.length ≤ j → all[j]? = some y → waits ms i j = true ∨ apart ds x y = true
  | [], pre, ha, _, j, o, hj, ho => by rw [ha, List.append_nil, List.getElem?_eq_none hj] at ho; simp at ho
  | y :: l, pre, ha, h, j, o, hj, ho => by
    simp only [apartFrom, Bool.and_eq_true, Bool.or_eq_true] at h
    rcases Nat.lt_or_ge pre.length j with hlt | hge
    · exact apartFrom_spec l (pre ++ [y]) (by simp [ha]) (by simpa using h.2) j o (by simp; omega) ho
    · have hjl : j = pre.length := by omega
      subst hjl
      rw [ha] at ho
      simp at ho
      subst ho
      exact h.1
theorem apartAll_spec {ms : List Nat} {ds : List (Option Nat)} {all : List Oper} : ∀ (l pre : List Oper), all = pre ++ l → apartAll ms ds pre.length l = true → ∀ i j x y, pre.length ≤ i → i < j → all[i]? = some x → all[j]? = some y → waits ms i j = true ∨ apart ds x y = true
  | [], pre, ha, _, i, j, x, y, hi, _, hx, _ => by rw [ha, List.append_nil, List.getElem?_eq_none hi] at hx; simp at hx
  | z :: l, pre, ha, h, i, j, x, y, hi, hij, hx, hy => by
    simp only [apartAll, Bool.and_eq_true] at h
    rcases Nat.lt_or_ge pre.length i with hlt | hge
    · exact apartAll_spec l (pre ++ [z]) (by simp [ha]) (by simpa using h.2) i j x y (by simp; omega) hij hx hy
    · have hil : i = pre.length := by omega
      subst hil
      have hz : z = x := by rw [ha] at hx; simpa using hx
      subst hz
      exact apartFrom_spec l (pre ++ [z]) (by simp [ha]) (by simpa using h.1) j y (by simp; omega) hy
theorem pairsOk_spec {ms : List Nat} : ∀ (ls : List Log), pairsOk ms ls = true → ls.Pairwise (PairC ms)
  | [], _ => List.Pairwise.nil
  | x :: l, h => by
    simp only [pairsOk, Bool.and_eq_true, List.all_eq_true, Bool.or_eq_true] at h
    exact List.pairwise_cons.2 ⟨fun y hy => h.1 y hy, pairsOk_spec l h.2⟩
theorem set_same {regs : List V} {t : Nat} {v : V} (h : regs.getD t .undef = v) (hv : v ≠ .undef) : regs.set t v = regs := by
  have hlt : t < regs.length := by
    rcases Nat.lt_or_ge t regs.length with h' | h'
    · exact h'
    · rw [List.getD_eq_getElem?_getD, List.getElem?_eq_none h'] at h
      exact absurd h.symm hv
  apply List.ext_getElem?
  intro i
  rw [List.getElem?_set]
  split
  · rename_i hi
    subst hi
    rw [List.getD_eq_getElem?_getD] at h
    rw [List.getElem?_eq_getElem hlt] at h ⊢
    simp at h
    simp [h, hlt]
  · rfl
section
variable {R : Type} {E : Env} {hint : Hint} {os : List Oper} {rs : List (Option Nat)} {ms : List Nat} {r : R} {k : List V → List AObj → Option R}
variable {inl : Tgt → List V → List AObj → (V → List AObj → Option R) → Option R}
def Stop (E : Env) (inl : Tgt → List V → List AObj → (V → List AObj → Option R) → Option R) (hint : Hint) (os : List Oper) (rs : List (Option Nat)) (ms : List Nat) (k : List V → List AObj → Option R) (r : R) (m : Nat) (regs : List V) (H : List AObj) : Prop :=
  (m = os.length ∧ k regs H = some r) ∨
  ∃ o g args, os[m]? = some o ∧ Wanted os o regs ∧ inlines E regs o = some (g, args) ∧ barrier ms os.length m = true ∧ lateAll ms rs os m = true ∧
    (inl g args H fun v H' => bif (late ms m).all (recheck os rs regs H') then evDraw E inl hint ms os.length (dsts os) rs os (os.drop (m + 1)) (m + 1) ((late ms m).map (relog os rs regs)) (setD regs o.dst v) H' k else none) = some r
theorem evDraw_seg : ∀ (l pre : List Oper) (lg : List Log) (regs : List V) (H : List AObj), os = pre ++ l → evDraw E inl hint ms os.length (dsts os) rs os l pre.length lg regs H k = some r →
    ∃ c regs1 H1 ls, Seg E hint os rs (List.range' pre.length c) regs H regs1 H1 ls ∧ pairsOk ms (lg ++ ls) = true ∧ pre.length + c ≤ os.length ∧ Stop E inl hint os rs ms k r (pre.length + c) regs1 H1
  | [], pre, lg, regs, H, ho, he => by
    simp only [evDraw, Bool.cond_eq_ite] at he
    split at he
    · rename_i hp
      exact ⟨0, regs, H, [], ⟨rfl, rfl, rfl⟩, by simpa using hp, by simp [ho], .inl ⟨by simp [ho], he⟩⟩
    · simp at he
  | o :: l, pre, lg, regs, H, ho, he => by
    have hget : os[pre.length]? = some o := by rw [ho]; simp
    have hrest : os = (pre ++ [o]) ++ l := by rw [ho]; simp
    have hlen : (pre ++ [o]).length = pre.length + 1 := by simp
    have hgo : Wanted os o regs → (match inlines E regs o with
      | some (g, args) => bif pairsOk ms lg && (barrier ms os.length pre.length && lateAll ms rs os pre.length) then inl g args H fun v H' => bif (late ms pre.length).all (recheck os rs regs H') then evDraw E inl hint ms os.length (dsts os) rs os l (pre.length + 1) ((late ms pre.length).map (relog os rs regs)) (setD regs o.dst v) H' k else none else none
      | none => evOpD E hint H regs o.type o.op (rs.getD pre.length none) fun v e => evDraw E inl hint ms os.length (dsts os) rs os l (pre.length + 1) (lg ++ [⟨pre.length, opReads regs o.op ++ rsvR (rs.getD pre.length none), e.writes H.length, e.still, (rs.getD pre.length none).isSome, mapTag o.op⟩]) (setD regs o.dst v) (e.app H) k) = some r →
        ∃ c regs1 H1 ls, Seg E hint os rs (List.range' pre.length c) regs H regs1 H1 ls ∧ pairsOk ms (lg ++ ls) = true ∧ pre.length + c ≤ os.length ∧ Stop E inl hint os rs ms k r (pre.length + c) regs1 H1 := by
      intro hw he
      split at he
      · rename_i g args hi
        rw [Bool.cond_eq_ite] at he
        split at he
        · rename_i hb
          rw [Bool.and_eq_true, Bool.and_eq_true] at hb
          refine ⟨0, regs, H, [], ⟨rfl, rfl, rfl⟩, by simpa using hb.1, by rw [ho]; simp, .inr ⟨o, g, args, by simpa using hget, hw, hi, hb.2.1, hb.2.2, ?_⟩⟩
          have hd : os.drop (pre.length + 0 + 1) = l := by
            rw [hrest, Nat.add_zero, ← hlen]
            exact List.drop_left
          rw [hd]
          exact he
        · simp at he
      · obtain ⟨v, e, h1, h2⟩ := evOpD_once he
        obtain ⟨c, regs1, H1, ls, g1, g2, g3, g4⟩ := evDraw_seg l (pre ++ [o]) _ _ _ hrest (by rw [hlen]; exact h2)
        rw [hlen] at g1 g3 g4
        refine ⟨c + 1, regs1, H1, ⟨pre.length, opReads regs o.op ++ rsvR (rs.getD pre.length none), e.writes H.length, e.still, (rs.getD pre.length none).isSome, mapTag o.op⟩ :: ls, ?_, ?_, by omega, ?_⟩
        · rw [List.range'_succ]
          exact ⟨o, v, e, _, ls, hget, rfl, rfl, .inl ⟨hw, h1, rfl⟩, g1⟩
        · simpa using g2
        · have : pre.length + (c + 1) = pre.length + 1 + c := by omega
          rw [this]; exact g4
    have hskip : Unwanted os o regs → evDraw E inl hint ms os.length (dsts os) rs os l (pre.length + 1) (lg ++ [⟨pre.length, [], [], true, false, .none⟩]) (setD regs o.dst (.tup [])) H k = some r →
        ∃ c regs1 H1 ls, Seg E hint os rs (List.range' pre.length c) regs H regs1 H1 ls ∧ pairsOk ms (lg ++ ls) = true ∧ pre.length + c ≤ os.length ∧ Stop E inl hint os rs ms k r (pre.length + c) regs1 H1 := by
      intro hw h2
      obtain ⟨c, regs1, H1, ls, g1, g2, g3, g4⟩ := evDraw_seg l (pre ++ [o]) _ _ _ hrest (by rw [hlen]; exact h2)
      rw [hlen] at g1 g3 g4
      refine ⟨c + 1, regs1, H1, ⟨pre.length, [], [], true, false, .none⟩ :: ls, ?_, ?_, by omega, ?_⟩
      · rw [List.range'_succ]
        exact ⟨o, .tup [], .none, _, ls, hget, rfl, rfl, .inr ⟨hw, rfl, rfl, rfl⟩, g1⟩
      · simpa using g2
      · have : pre.length + (c + 1) = pre.length + 1 + c := by omega
        rw [this]; exact g4
    simp only [evDraw] at he
    split at he
    · rename_i hg
      exact hgo (fun j want h => by rw [hg] at h; simp at h) he
    · rename_i j want hg
      split at he
      · rename_i t hdst
        split at he
        · rename_i x hx
          split at he
          · rename_i b
            split at he
            · have hs := set_same hx (by simp)
              rw [hs] at he
              cases want with
              | true =>
                simp only [cond_true] at he
                exact hgo (fun j' want' h => by rw [hg] at h; obtain ⟨rfl, rfl⟩ : j = j' ∧ true = want' := by simpa using h
                                                exact ⟨t, hdst, hx⟩) he
              | false =>
                simp only [cond_false] at he
                exact hskip ⟨j, false, t, hg, hdst, .inl (by simpa using hx)⟩ he
            · have hs := set_same hx (by simp)
              rw [hs] at he
              cases want with
              | true =>
                simp only [cond_true] at he
                exact hskip ⟨j, true, t, hg, hdst, .inl (by simpa using hx)⟩ he
              | false =>
                simp only [cond_false] at he
                exact hgo (fun j' want' h => by rw [hg] at h; obtain ⟨rfl, rfl⟩ : j = j' ∧ false = want' := by simpa using h
                                                exact ⟨t, hdst, hx⟩) he
          · simp at he
        · rename_i hx
          exact hskip ⟨j, want, t, hg, hdst, .inr hx⟩ he
        · simp at he
      · simp at he
end
end Go.AM
