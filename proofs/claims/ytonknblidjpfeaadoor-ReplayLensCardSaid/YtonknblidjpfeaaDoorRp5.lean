/- Part 5 of the proof: the abstract machine, what the functions compute, and plain laws over that. -/
import Derived.Test.YtonknblidjpfeaaDoorRp4
import Derived.LoopN
import Derived.Shelf.Unicode.DecodeAny
import Derived.Shelf.Spec.SlicesInsert
import Derived.Shelf.Spec.SlicesInsertGrow
set_option linter.all false
set_option linter.unusedSimpArgs false
set_option linter.unusedVariables false
set_option linter.unusedSectionVars false
namespace Go.AM
open Go Go.RowKit
section
variable {P : Program} {X : List Nat} {B0 : Nat} {w0 : World}
variable {R : Type} {E : Env} {I : World → Prop} {gl : Nat}
def QA (Q : Exit → Act → World → Prop) : AExit → Act → World → Prop
  | .normal => Q .normal
  | .ret => Q .ret
  | .exit id => Q (.exit id)
theorem rowify_ok {w : World} {base : Nat} {tmps : Array Value} : ∀ (l : List (Nat × Nat)) {μ : List Loc} {H : List AObj} {regs regs' : List V} {H' : List AObj} {tg tg' : List (Nat × Nat)}, HOk E.ty P.cellsOf X B0 w0 μ H w → Regs P E.ty (M_ X μ H w) μ regs tmps → base ≤ μ.length →
    rowify E.ty l regs H tg = some (regs', H', tg') → ∃ μ', HOk E.ty P.cellsOf X B0 w0 μ' H' w ∧ Regs P E.ty (M_ X μ' H' w) μ' regs' tmps ∧ Fut X B0 base μ H w μ' H' w ∧ μ.length ≤ μ'.length
  | [], μ, H, regs, regs', H', tg, tg', h, hr, hb, he => by
    simp only [rowify, Option.some.injEq, Prod.mk.injEq] at he
    obtain ⟨rfl, rfl, rfl⟩ := he
    exact ⟨μ, h, hr, ⟨fun _ _ => rfl, hb, Mem.le_refl _, Below.refl _ _⟩, Nat.le_refl _⟩
  | (r, e) :: l, μ, H, regs, regs', H', tg, tg', h, hr, hb, he => by
    simp only [rowify] at he
    split at he
    · rename_i κ hreg
      split at he
      · rename_i hc
        obtain ⟨rfl, hok⟩ := hc
        have hne : E.ty e ≠ .bad := by intro hb; rw [hb] at hok; simp [K.ok] at hok
        have hrr := hr.get r
        rw [hreg] at hrr
        replace hrr := hrr.resolve_left (by simp)
        obtain ⟨κ0, hrr⟩ := hrr
        simp only [RV] at hrr
        obtain ⟨rfl, hrr⟩ := hrr
        simp only [Rep] at hrr
        obtain ⟨e1, ad, cap, h1, hx, _, hnn, hnil, _⟩ := hrr
        have had : ad = none := by cases ad with | none => rfl | some _ => simp at hnn
        subst had
        have hcap0 := hnil rfl
        subst hcap0
        obtain ⟨g1, g2, g3⟩ := newVirt h (Below.refl _ _) hne none
        have hlt : r < tmps.size := by
          rcases Nat.lt_or_ge r tmps.size with h | h
          · exact h
          · rw [Array.getD_eq_getD_getElem?, Array.getElem?_eq_none h] at hx
            simp [Go.undef] at hx
        have hr2 : Regs P E.ty (M_ X (μ ++ [⟨0, 0, 0, .array 0 e, true, false⟩]) (H ++ [.row e true false []]) w) (μ ++ [⟨0, 0, 0, .array 0 e, true, false⟩]) (regs.set r (.sref H.length 0 0)) tmps := by
          refine ⟨by simp [hr.len], fun i => ?_⟩
          rw [getD_set]
          split
          · rename_i hi
            obtain ⟨rfl, _⟩ := hi
            have hx' : tmps.getD r Go.undef = .slice none 0 0 := hx
            rw [hx']; exact g3
          · exact RR.mono _ _ g2.mem (g2.keeps (Nat.le_refl _)) (hr.get i)
        obtain ⟨μ', k1, k2, k3, k4⟩ := rowify_ok (base := base) l g1 hr2 (by simp; omega) he
        exact ⟨μ', k1, k2, Fut.trans (Nat.le_refl _) ⟨fun i hi => g2.loc i (by omega), by simp; omega, g2.mem, g2.below⟩ k3, Nat.le_trans (by simp) k4⟩
      · simp at he
    · exact rowify_ok l h hr hb he
    · simp at he
theorem loopN_ok {c : Code} {Q : Exit → Act → World → Prop} {r : R} {base : Nat} {μs : List Loc} {Hs : List AObj} {ws : World} {head : List V → List AObj → Option (List V × List AObj)}
    {body : List V → List AObj → (AExit → List V → List AObj → Option R) → Option R} {k : AExit → List V → List AObj → Option R}
    (hhead : ∀ (regs : List V) (H : List AObj) (μ : List Loc) (a : Act) (w : World) (regs' : List V) (H' : List AObj), head regs H = some (regs', H') → HOk E.ty P.cellsOf X B0 w0 μ H w → Regs P E.ty (M_ X μ H w) μ regs a.tmps → base ≤ μ.length →
      ∃ μ', HOk E.ty P.cellsOf X B0 w0 μ' H' w ∧ Regs P E.ty (M_ X μ' H' w) μ' regs' a.tmps ∧ Fut X B0 base μ H w μ' H' w)
    (hbody : ∀ (regs : List V) (H : List AObj) (k' : AExit → List V → List AObj → Option R) (μ : List Loc) (a : Act) (w : World) (Q' : Exit → Act → World → Prop), body regs H k' = some r → HOk E.ty P.cellsOf X B0 w0 μ H w → Regs P E.ty (M_ X μ H w) μ regs a.tmps → a.defers = [] → base ≤ μ.length →
      (∀ e regs' H' μ' a' w', k' e regs' H' = some r → HOk E.ty P.cellsOf X B0 w0 μ' H' w' → Regs P E.ty (M_ X μ' H' w') μ' regs' a'.tmps → a'.defers = [] → Fut X B0 base μ H w μ' H' w' → QA Q' e a' w') → c.wp P Q' a w)
    (hk : ∀ e regs' H' μ' a' w', k e regs' H' = some r → HOk E.ty P.cellsOf X B0 w0 μ' H' w' → Regs P E.ty (M_ X μ' H' w') μ' regs' a'.tmps → a'.defers = [] → Fut X B0 base μs Hs ws μ' H' w' → QA Q e a' w') :
    ∀ (n : Nat) (regs : List V) (H : List AObj) (μ : List Loc) (a : Act) (w : World), loopN head body n regs H k = some r → HOk E.ty P.cellsOf X B0 w0 μ H w → Regs P E.ty (M_ X μ H w) μ regs a.tmps → a.defers = [] → base ≤ μ.length → Fut X B0 base μs Hs ws μ H w → Code.rounds P c Q n a w
  | 0, regs, H, μ, a, w, he, _, _, _, _, _ => by simp [loopN] at he
  | n + 1, regs, H, μ, a, w, he, h, hr, hd, hb, F => by
    simp only [loopN] at he
    split at he
    · rename_i regs1 H1 hh
      obtain ⟨μ1, g1, g2, g3⟩ := hhead regs H μ a w regs1 H1 hh h hr hb
      rw [rounds_succ]
      refine hbody regs1 H1 _ μ1 a w _ he g1 g2 hd g3.len (fun e regs' H' μ' a' w' hk' h' hr' hd' F' => ?_)
      have F2 := Fut.trans (Nat.le_refl _) (Fut.trans (Nat.le_refl _) F g3) F'
      cases e with
      | normal => exact loopN_ok hhead hbody hk n regs' H' μ' a' w' hk' h' hr' hd' F'.len F2
      | ret => exact hk .ret regs' H' μ' a' w' hk' h' hr' hd' F2
      | exit id => exact hk (.exit id) regs' H' μ' a' w' hk' h' hr' hd' F2
    · simp at he
variable (EO : EnvOk P E I gl) (hI : I w0) (hgl : gl ≤ B0)
include EO hI hgl
theorem ev_ok {inl : Nat → List V → List AObj → (V → List AObj → Option R) → Option R} (IN : InlOk P E X B0 w0 inl) {f base : Nat} {r : R} :
    ∀ (c : Code) (regs : List V) (H : List AObj) (k : AExit → List V → List AObj → Option R) (μ : List Loc) (a : Act) (w : World) (Q : Exit → Act → World → Prop), ev E inl f base c regs H k = some r → HOk E.ty P.cellsOf X B0 w0 μ H w → Regs P E.ty (M_ X μ H w) μ regs a.tmps → a.defers = [] → base ≤ μ.length →
      (∀ e regs' H' μ' a' w', k e regs' H' = some r → HOk E.ty P.cellsOf X B0 w0 μ' H' w' → Regs P E.ty (M_ X μ' H' w') μ' regs' a'.tmps → a'.defers = [] → Fut X B0 base μ H w μ' H' w' → QA Q e a' w') → c.wp P Q a w := by
  intro c
  induction c with
  | skip => intro regs H k μ a w Q he h hr hd hb hk; exact wp_skip (hk .normal regs H μ a w he h hr hd ⟨fun _ _ => rfl, hb, Mem.le_refl _, Below.refl _ _⟩)
  | label l => intro regs H k μ a w Q he h hr hd hb hk; exact wp_label (hk .normal regs H μ a w he h hr hd ⟨fun _ _ => rfl, hb, Mem.le_refl _, Below.refl _ _⟩)
  | ret => intro regs H k μ a w Q he h hr hd hb hk; exact wp_ret (hk .ret regs H μ a w he h hr hd ⟨fun _ _ => rfl, hb, Mem.le_refl _, Below.refl _ _⟩)
  | exit id => intro regs H k μ a w Q he h hr hd hb hk; exact wp_exit (hk (.exit id) regs H μ a w he h hr hd ⟨fun _ _ => rfl, hb, Mem.le_refl _, Below.refl _ _⟩)
  | seq x y ihx ihy =>
    intro regs H k μ a w Q he h hr hd hb hk
    refine wp_seq (ihx regs H _ μ a w _ he h hr hd hb (fun e regs' H' μ' a' w' hk' h' hr' hd' F' => ?_))
    cases e with
    | normal => exact ihy regs' H' k μ' a' w' Q hk' h' hr' hd' F'.len (fun e r2 H2 μ2 a2 w2 k2 h2 hr2 hd2 F2 => hk e r2 H2 μ2 a2 w2 k2 h2 hr2 hd2 (Fut.trans (Nat.le_refl _) F' F2))
    | ret => exact hk .ret regs' H' μ' a' w' hk' h' hr' hd' F'
    | exit id => exact hk (.exit id) regs' H' μ' a' w' hk' h' hr' hd' F'
  | cond c x y ihx ihy =>
    intro regs H k μ a w Q he h hr hd hb hk
    simp only [ev] at he
    split at he
    · rename_i d hc
      have hv := val_ok hr .bool c
      rw [hc] at hv
      replace hv := hv.resolve_left (by simp)
      obtain ⟨κ, hv⟩ := hv
      simp only [RV] at hv
      obtain ⟨rfl, hv⟩ := hv
      have hx := rep_bool hv
      split at he
      · rename_i hb'
        exact wp_cond_true (by rw [hx, hb']) (ihx regs H k μ a w Q he h hr hd hb hk)
      · rename_i hb'
        exact wp_cond_false (by rw [hx, hb']) (ihy regs H k μ a w Q he h hr hd hb hk)
    · simp at he
  | block id c ih =>
    intro regs H k μ a w Q he h hr hd hb hk
    refine wp_block (ih regs H _ μ a w _ he h hr hd hb (fun e regs' H' μ' a' w' hk' h' hr' hd' F' => ?_))
    cases e with
    | normal => exact hk .normal regs' H' μ' a' w' hk' h' hr' hd' F'
    | ret => exact hk .ret regs' H' μ' a' w' hk' h' hr' hd' F'
    | exit id' =>
      simp only [QA, Exit.inBlock]
      cases hid : (id' == id) with
      | true =>
        simp only [hid, cond_true] at hk'
        rw [if_pos (by simpa using hid)]
        exact hk .normal regs' H' μ' a' w' hk' h' hr' hd' F'
      | false =>
        simp only [hid, cond_false] at hk'
        rw [if_neg (by simpa using hid)]
        exact hk (.exit id') regs' H' μ' a' w' hk' h' hr' hd' F'
  | loop c ih =>
    intro regs H k μ a w Q he h hr hd hb hk
    simp only [ev] at he
    split at he
    · rename_i regs1 H1 tg hrow
      obtain ⟨μ1, g1, g2, g3, g4⟩ := rowify_ok (base := base) _ h hr hb hrow
      refine wp_loop_rounds E.fuel (loopN_ok (P := P) (X := X) (B0 := B0) (w0 := w0) (E := E) (base := base) (μs := μ) (Hs := H) (ws := w) ?_ ?_ hk E.fuel regs1 H1 μ1 a w he g1 g2 hd (by omega) g3)
      · intro regs2 H2 μ2 a2 w2 regs3 H3 hh h2 hr2 hb2
        exact headSt_ok h2 hr2 hb2 (by rw [← g1.len]; omega) hh
      · intro regs2 H2 k' μ2 a2 w2 Q' hb2 h2 hr2 hd2 hbl2 hk2
        exact ih regs2 H2 k' μ2 a2 w2 Q' hb2 h2 hr2 hd2 hbl2 hk2
    · simp at he
  | region id ops draw =>
    intro regs H k μ a w Q he h hr hd hb hk
    cases draw with
    | true =>
      simp only [ev, Bool.cond_eq_ite] at he
      split at he
      · rename_i hD
        exact draw_ok EO hI hgl IN hD he h hr hd hb (hk .normal)
      · simp at he
    | false =>
      simp only [ev] at he
      refine wp_region ?_
      have := evOps_ok EO hI hgl IN (ops := ops) (Q := Q) (base := base) (μs := μ) (Hs := H) (ws := w) (hk .normal) ops.toList [] regs H μ a w (by simp) he h hr hd ⟨fun _ _ => rfl, hb, Mem.le_refl _, Below.refl _ _⟩
      simpa [List.range_eq_range'] using this
  | rangeFunc f ps x y _ _ => intro regs H k μ a w Q he; simp [ev] at he
  | scope c _ => intro regs H k μ a w Q he; simp [ev] at he
  | goto l => intro regs H k μ a w Q he; simp [ev] at he
  | refuse s => intro regs H k μ a w Q he; simp [ev] at he
end
end Go.AM
namespace Go.AM
open Go Go.RowKit
section
variable {P : Program} {X : List Nat} {B0 : Nat} {w0 : World}
variable {R : Type} {E : Env} {I : World → Prop} {gl : Nat}
theorem resVals_ok (T : TyOk P E.ty) {μ : List Loc} {H : List AObj} {w : World} {regs : List V} {tmps : Array Value} (h : HOk E.ty P.cellsOf X B0 w0 μ H w) (hr : Regs P E.ty (M_ X μ H w) μ regs tmps) :
    ∀ (l : List ResultVar) (vs : List V), resVals E regs H l = some vs → ∃ xs : List Value, (l.mapM (m := Sem) fun | .tmp t => pure (tmps.getD t Go.undef) | .cell a t => do loadVar t (← asAddr (tmps.getD a Go.undef))).run P w = .ok xs w ∧ RVt E.ty P.cellsOf (M_ X μ H w) μ vs xs
  | [], vs, he => by
    simp only [resVals, Option.some.injEq] at he; subst he
    exact ⟨[], by simp [run_pure], by simp [RVt]⟩
  | .tmp t :: l, vs, he => by
    simp only [resVals] at he
    split at he
    · rename_i vs' hvs
      simp only [Option.some.injEq] at he; subst he
      obtain ⟨xs, h1, h2⟩ := resVals_ok T h hr l vs' hvs
      refine ⟨tmps.getD t Go.undef :: xs, ?_, ?_⟩
      · rw [List.mapM_cons]
        simp only [run_bind, run_pure, h1]
      · simp only [RVt]; exact ⟨_, _, rfl, hr.get t, h2⟩
    · simp at he
  | .cell c t :: l, vs, he => by
    simp only [resVals] at he
    split at he
    · rename_i b p κ hreg
      split at he
      · rename_i hκ
        split at he
        · rename_i κ1 v hH
          split at he
          · rename_i v' hget
            split at he
            · rename_i vs' hvs
              simp only [Option.some.injEq] at he; subst he
              obtain ⟨xs, h1, h2⟩ := resVals_ok T h hr l vs' hvs
              have hv := hr.get c
              rw [hreg] at hv
              replace hv := hv.resolve_left (by simp)
              obtain ⟨κ0, hv⟩ := hv
              simp only [RV] at hv
              obtain ⟨_, lc, hμ, hvirt, hpo, hpk, hx⟩ := hv
              have hobj := h.obj b lc _ hμ hH
              simp only [ObjOk] at hobj
              obtain ⟨_, hb0, hk1, hkb, cs, et, x0, hblk, hrv, hcells⟩ := hobj
              rw [hk1] at hpo hpk hx
              obtain ⟨c1, y, c2, e1, e2, e3, e4⟩ := RV.get T.szOk hrv hkb hpo hget
              rw [hpk, hκ] at e3 e4
              refine ⟨y :: xs, ?_, ?_⟩
              · rw [List.mapM_cons]
                have hadr : asAddr (tmps.getD c Go.undef) = (pure ⟨lc.blk, lc.base + (pathOff E.ty P.cellsOf κ1 p).1, none⟩ : Sem Addr) := by rw [hx]; rfl
                have hload : (loadVar t ⟨lc.blk, lc.base + (pathOff E.ty P.cellsOf κ1 p).1, none⟩).run P w = .ok y w :=
                  run_load_ok T e4 e3 rfl (fun j v hj => by
                    have := block_cells hblk (c1 := c1) (by rw [← hcells]; exact e1) j v hj
                    simpa [hb0, e2] using this)
                simp only [hadr, run_bind, run_pure, hload, h1]
              · simp only [RVt]; exact ⟨_, _, rfl, .inr ⟨_, e4⟩, h2⟩
            · simp at he
          · simp at he
        · simp at he
      · simp at he
    · simp at he
theorem oneOf_ok {ty : Nat → K} {sz : Nat → Nat} {M : Mem} {μ : List Loc} {vs : List V} {xs : List Value} (h : RVt ty sz M μ vs xs) : RR ty sz M μ (oneOf vs) (if h : xs.toArray.size = 1 then xs.toArray[0] else .tuple xs.toArray) := by
  cases vs with
  | nil => simp only [RVt] at h; subst h; exact .inr ⟨.bad, by simp [oneOf, RV, RVt]⟩
  | cons v vs =>
    have hh := h
    simp only [RVt] at h
    obtain ⟨x, rest, rfl, h1, h2⟩ := h
    cases vs with
    | nil => simp only [RVt] at h2; subst h2; simpa [oneOf, RR] using h1
    | cons v' vs =>
      have h2' := h2
      simp only [RVt] at h2
      obtain ⟨x', rest', rfl, h3, h4⟩ := h2
      rw [dif_neg (by simp)]
      exact .inr ⟨.bad, by simp only [oneOf, RV]; exact ⟨trivial, _, rfl, hh⟩⟩
variable (EO : EnvOk P E I gl) (hI : I w0) (hgl : gl ≤ B0)
include EO hI hgl
theorem call_ok : ∀ n : Nat, InlOk (R := R) P E X B0 w0 (call E n)
  | 0 => by intro g args H k r μ w xs Post he; simp [call] at he
  | n + 1 => by
    intro g args H k r μ w xs Post he h hargs hk
    simp only [call] at he
    split at he
    · rename_i x hx
      split at he
      · rename_i cc v H' hxe
        cases cc with
        | false => simp at he
        | true =>
        simp only [cond_true] at he
        refine (EO.ext g x hx X B0 w0 μ H w args v H' xs (EO.keep w0 w (h.below.mono hgl) hI) hgl h hargs hxe).mono ?_
        rintro e w' ⟨y, μ', rfl, h1, h2, h3⟩
        exact ⟨y, rfl, hk v H' μ' w' y he h2 h1 h3⟩
      · simp at he
    split at he
    · rename_i fn hfn
      split at he
      · rename_i c hbody
        obtain ⟨hf, _⟩ := EO.fn g fn hfn
        refine calls_of_wp hf hbody ?_
        have hlen : args.length = xs.length := by
          clear he hk
          induction args generalizing xs with
          | nil => simp only [RVt] at hargs; simp [hargs]
          | cons a as1 ih => simp only [RVt] at hargs; obtain ⟨x, rest, rfl, _, h2⟩ := hargs; simp [ih rest h2]
        have hregs : Regs P E.ty (M_ X μ H w) μ (args ++ List.replicate (fn.ntmps - args.length) .undef) (xs.toArray ++ Array.replicate (fn.ntmps - xs.toArray.size) Go.undef) := by
          refine ⟨by simp [hlen], fun i => ?_⟩
          by_cases hi : i < args.length
          · obtain ⟨x, hx, hrr⟩ := RVt.at hargs (List.getElem?_eq_getElem hi)
            have e1 : (args ++ List.replicate (fn.ntmps - args.length) V.undef).getD i .undef = args[i] := by
              rw [List.getD_eq_getElem?_getD, List.getElem?_append_left hi, List.getElem?_eq_getElem hi]; rfl
            have e2 : (xs.toArray ++ Array.replicate (fn.ntmps - xs.toArray.size) Go.undef).getD i Go.undef = x := by
              rw [Array.getD_eq_getD_getElem?, Array.getElem?_append_left (by simp; omega)]
              simp [hx]
            rw [e1, e2]; exact hrr
          · left
            rw [List.getD_eq_getElem?_getD, List.getElem?_append_right (by omega), List.getElem?_replicate]
            split <;> rfl
        refine ev_ok EO hI hgl (call_ok n) c _ H _ μ _ w _ he h hregs rfl (by rw [h.len]; exact Nat.le_refl _) (fun e regs' H' μ' a' w' hk' h' hr' hd' F' => ?_)
        have hfin : (match resVals E regs' H' fn.results.toList with | some vs => k (oneOf vs) H' | none => none) = some r →
            a'.defers = [] ∧ ∃ v, (results fn a'.tmps).run P w' = .ok v w' ∧ ∃ x, Ending.returned v = .returned x ∧ Post x w' := by
          intro hk'
          split at hk'
          · rename_i vs hvs
            obtain ⟨xs', h1, h2⟩ := resVals_ok EO.ty h' hr' _ vs hvs
            have hres : (results fn a'.tmps).run P w' = .ok (if h : xs'.toArray.size = 1 then xs'.toArray[0] else .tuple xs'.toArray) w' := by
              simp only [results]
              rw [Array.mapM_eq_mapM_toList]
              rw [map_eq_pure_bind]
              simp only [run_bind]
              erw [h1]
              rfl
            refine ⟨hd', _, hres, _, rfl, ?_⟩
            refine hk _ H' μ' w' _ hk' (oneOf_ok h2) h' ?_
            rw [h.len]; exact F'
          · simp at hk'
        cases e with
        | normal => exact hfin hk'
        | ret => exact hfin hk'
        | exit id => simp at hk'
      · simp at he
    · simp at he
end
end Go.AM
namespace Go.AM
open Go Go.RowKit
mutual
def D.noMem : D → Bool
  | .agg ds => D.noMems ds
  | .slice _ ds => ds.isEmpty
  | .iface _ x => D.noMem x
  | .tup ds => D.noMems ds
  | _ => true
def D.noMems : List D → Bool
  | [] => true
  | d :: ds => D.noMem d && D.noMems ds
end
section
variable {P : Program} {ty : Nat → K}
mutual
theorem noMem_rep {M M' : Mem} : ∀ (d : D) (κ : K) (v : Value), d.noMem = true → Rep ty M d κ v → Rep ty M' d κ v
  | .bool _, _, _, _, k => k
  | .int _ _, _, _, _, k => k
  | .str _, _, _, _, k => k
  | .agg ds, κ, v, h, k => by
    simp only [D.noMem] at h
    simp only [Rep] at k ⊢
    obtain ⟨a, cs, b, c⟩ := k
    exact ⟨a, cs, b, noMems_rep ds _ _ h c⟩
  | .slice nn ds, κ, v, h, k => by
    have h0 : ds = [] := by simpa [D.noMem] using h
    subst h0
    simp only [Rep] at k ⊢
    obtain ⟨e, a, cap, h1, h2, h3, h4, h5, _⟩ := k
    exact ⟨e, a, cap, h1, h2, h3, h4, h5, .inl trivial⟩
  | .iface t x, κ, v, h, k => by
    simp only [D.noMem] at h
    simp only [Rep] at k ⊢
    obtain ⟨a, b, y, e, c⟩ := k
    exact ⟨a, b, y, e, noMem_rep x _ _ h c⟩
  | .nilIface, _, _, _, k => k
  | .fn _, _, _, _, k => k
  | .nilFunc, _, _, _, k => k
  | .nilPtr, _, _, _, k => k
  | .nilMap, _, _, _, k => k
  | .tup _, _, _, _, k => k
theorem noMems_rep {M M' : Mem} : ∀ (ds : List D) (κs : List K) (cs : List Value), D.noMems ds = true → Reps ty M ds κs cs → Reps ty M' ds κs cs
  | [], _, _, _, k => k
  | d :: ds, κs, cs, h, k => by
    simp only [D.noMems, Bool.and_eq_true] at h
    simp only [Reps] at k ⊢
    obtain ⟨κ, κs', x, rest, a, b, c, e⟩ := k
    exact ⟨κ, κs', x, rest, a, b, noMem_rep d _ _ h.1 c, noMems_rep ds _ _ h.2 e⟩
end
theorem noMem_each {M M' : Mem} : ∀ (ds : List D) (κs : List K) (xs : List Value), D.noMems ds = true → Each ty M ds κs xs → Each ty M' ds κs xs
  | [], _, _, _, k => k
  | d :: ds, κs, cs, h, k => by
    simp only [D.noMems, Bool.and_eq_true] at h
    simp only [Each] at k ⊢
    obtain ⟨κ, κs', x, rest, a, b, c, e⟩ := k
    exact ⟨κ, κs', x, rest, a, b, noMem_rep d _ _ h.1 c, noMem_each ds _ _ h.2 e⟩
theorem noMem_res {M M' : Mem} {ts : List Nat} {r : D} {v : Value} (h : r.noMem = true) (k : ResRep ty M ts r v) : ResRep ty M' ts r v := by
  unfold ResRep at k ⊢
  split at k
  · exact noMem_rep _ _ _ h k
  · obtain ⟨ds, xs, rfl, rfl, hE⟩ := k
    exact ⟨ds, xs, rfl, rfl, noMem_each _ _ _ (by simpa only [D.noMem] using h) hE⟩
theorem finish_ok (T : TyOk P ty) {X : List Nat} {B0 : Nat} {w0 w : World} {μ : List Loc} {H : List AObj} (h : HOk ty P.cellsOf X B0 w0 μ H w) {u : V} {x : Value} {ts : List Nat} {r : D} (hr : RR ty P.cellsOf (M_ X μ H w) μ u x) (hf : finish ty ts u H = some r) :
    ResRep ty (memOf w X) ts r x := by
  have hPM : PM X false w μ H = memOf w X := by simp [PM]
  unfold finish at hf
  unfold ResRep
  split at hf
  · rename_i t
    cases hk : kindIs ty H u (ty t) with
    | false => rw [hk] at hf; simp at hf
    | true =>
      rw [hk] at hf
      simp only [cond_true] at hf
      have hx := kindIs_ok h hr hk
      have := pure_ok T h (st := false) PM_le _ _ _ _ hx (kindIs_good hk hx) hf
      rw [hPM] at this
      exact this
  · rename_i tsx hne
    split
    · exact absurd rfl (hne _)
    split at hf
    · rename_i vs
      cases hk : allKinds ty H vs ts with
      | false => rw [hk] at hf; simp at hf
      | true =>
        rw [hk] at hf
        simp only [cond_true] at hf
        split at hf
        · rename_i ds hds
          simp only [Option.some.injEq] at hf
          subst hf
          replace hr := hr.resolve_left (by simp)
          obtain ⟨κ, hr⟩ := hr
          simp only [RV] at hr
          obtain ⟨_, xs, hx, hr⟩ := hr
          have := pureEach_ok T h (st := false) PM_le _ _ _ _ hr hk hds
          rw [hPM] at this
          exact ⟨ds, xs, rfl, hx, this⟩
        · simp at hf
    · simp at hf
theorem RVt.of_each {M : Mem} {sz : Nat → Nat} {μ : List Loc} : ∀ {ds : List D} {κs : List K} {xs : List Value}, Each ty M ds κs xs → RVt ty sz M μ (List.zipWith V.d κs ds) xs
  | [], κs, xs, h => by simp only [Each] at h; obtain ⟨rfl, rfl⟩ := h; simp [RVt]
  | d :: ds, κs, xs, h => by
    simp only [Each] at h
    obtain ⟨κ, κs', x, rest, rfl, rfl, h1, h2⟩ := h
    simp only [List.zipWith_cons_cons, RVt]
    exact ⟨x, rest, rfl, .inr ⟨κ, by simp only [RV]; exact ⟨trivial, h1⟩⟩, RVt.of_each h2⟩
theorem start_ok {X : List Nat} {w : World} (hX : ∀ b ∈ X, b < w.heap.size) : HOk ty P.cellsOf X w.heap.size w [] [] w := by
  refine ⟨rfl, ?_, ?_, ?_, hX, Below.refl _ _, Nat.le_refl _⟩
  · intro i l o h; simp at h
  · rintro i j b ⟨l, o, h, _⟩; simp at h
  · rintro i b ⟨l, o, h, _⟩; simp at h
variable {E : Env} {I : World → Prop} {gl : Nat}
theorem contract_of_run (EO : EnvOk P E I gl) (hgl : ∀ w, I w → gl ≤ w.heap.size) {depth f : Nat} {fn : Func} {c : Con}
    (hfresh : c.fresh = false) (hrun : ∀ ds r, c.run ds = some r → run E depth f (fn.params.toList.map E.ty) fn.resultTypes.toList ds = some r)
    (hplain : c.plain = true → ∀ ds r, c.run ds = some r → r.noMem = true) : Contract P E.ty I f fn c := by
  intro X w ds xs r hIw hX hE hr
  have hcall := call_ok (R := D) (X := X) (B0 := w.heap.size) (w0 := w) EO hIw (hgl w hIw) depth f (List.zipWith V.d (fn.params.toList.map E.ty) ds) [] _ r [] w xs
    (fun v w' => Below w.heap.size w w' ∧ ResRep E.ty (memOf w' X) fn.resultTypes.toList r v) (hrun ds r hr) (start_ok hX) (by
      have := RVt.of_each (sz := P.cellsOf) (μ := []) hE
      simpa [M_, owned] using this) (by
      intro v H' μ' w' x hf hv h' F'
      exact ⟨F'.below, finish_ok EO.ty h' hv hf⟩)
  refine hcall.mono ?_
  rintro e w' ⟨v, rfl, hb, hres⟩
  refine ⟨v, rfl, hb, ?_⟩
  by_cases hp : c.plain = true
  · rw [if_pos hp]
    exact fun M => noMem_res (hplain hp ds r hr) hres
  · rw [if_neg hp, if_neg (by simp [hfresh])]
    exact hres
theorem contract_of_runFresh (EO : EnvOk P E I gl) (hgl : ∀ w, I w → gl ≤ w.heap.size) {depth f : Nat} {fn : Func} {c : Con}
    (hplain : c.plain = false) (hfresh : c.fresh = true) (hrun : ∀ ds r, c.run ds = some r → runFresh E depth f (fn.params.toList.map E.ty) fn.resultTypes.toList ds = some r) : Contract P E.ty I f fn c := by
  intro X w ds xs r hIw hX hE hr
  have hcall := call_ok (R := D) (X := X) (B0 := w.heap.size) (w0 := w) EO hIw (hgl w hIw) depth f (List.zipWith V.d (fn.params.toList.map E.ty) ds) [] _ r [] w xs
    (fun v w' => Below w.heap.size w w' ∧ FreshRep P E.ty X w w' fn.resultTypes.toList r v) (hrun ds r hr) (start_ok hX) (by
      have := RVt.of_each (sz := P.cellsOf) (μ := []) hE
      simpa [M_, owned] using this) (by
      intro v H' μ' w' x hf hv h' F'
      refine ⟨F'.below, ?_⟩
      unfold finishFresh at hf
      split at hf
      · rename_i t b off len hts
        split at hf
        · rename_i e nn ds' hH
          cases hc : (decide (E.ty t = .slice e) && decide (len = ds'.length) && decide (off = 0)) with
          | false => rw [hc] at hf; simp at hf
          | true =>
            rw [hc] at hf
            simp only [cond_true, Option.some.injEq] at hf
            subst hf
            simp only [Bool.and_eq_true, decide_eq_true_eq] at hc
            obtain ⟨⟨hk, rfl⟩, rfl⟩ := hc
            replace hv := hv.resolve_left (by simp)
            obtain ⟨κ, hv⟩ := hv
            simp only [RV] at hv
            obtain ⟨l, n, e0, hμ, hl, _, hlen, hx⟩ := hv
            obtain ⟨rfl, rfl⟩ := row_loc h' hH hμ hl
            have hobj := h'.obj b l _ hμ hH
            simp only [ObjOk] at hobj
            obtain ⟨_, hlnn, _, hobj⟩ := hobj
            refine ⟨t, e0, nn, ds', hts, hk, rfl, ?_⟩
            rcases hx with ⟨hvirt, h0, a, rfl, ha⟩ | ⟨hvirt, cap, rfl, hc1, hc2, hreach⟩ | ⟨hvirt, h0, hreach, a, rfl⟩
            · exact .inl ⟨List.eq_nil_of_length_eq_zero h0, a, rfl, by rw [ha, hlnn]⟩
            · rw [if_neg (by simp [hvirt])] at hobj
              obtain ⟨hnn, hcap, cs, et, fz, pre, mid, post, h1, h2, h3, h4, h5, h6⟩ := hobj
              refine .inr ⟨hnn, l.blk, l.base, cap, cs, et, fz, pre, mid, post, ?_, by simp, h1, h2, h3, ?_, ⟨hc1, by omega⟩, ?_, h6⟩
              · exact h'.low b l.blk ⟨l, _, hμ, hH, by simp [usesB, hvirt]⟩
              · refine Reps.mono _ (memOf_leX (fun _ _ _ => rfl) (fun b' hb' => ?_)) _ _ _ h4
                left
                simp only [List.mem_singleton] at hb'
                subst hb'
                exact mem_owned.2 ⟨b, l, _, hμ, hH, by simp [ownB, hvirt]⟩
              · refine Nat.le_trans (Nat.mul_le_mul_right _ ?_) h5
                omega
            · rw [if_neg (by simp [hvirt])] at hobj
              exact .inl ⟨List.eq_nil_of_length_eq_zero h0, some a, rfl, by rw [hobj.1]; rfl⟩
        · simp at hf
      · rename_i t e hts
        cases hc : decide (E.ty t = .slice e) with
        | false => rw [hc] at hf; simp at hf
        | true =>
          rw [hc] at hf
          simp only [cond_true, Option.some.injEq] at hf
          subst hf
          replace hv := hv.resolve_left (by simp)
          obtain ⟨κ, hv⟩ := hv
          simp only [RV] at hv
          obtain ⟨_, hv⟩ := hv
          simp only [Rep] at hv
          obtain ⟨e1, a, cap, h1, hx, _, hnn, hnil, _⟩ := hv
          have ha : a = none := by cases a with | none => rfl | some _ => simp at hnn
          subst ha
          have hcap := hnil rfl
          subst hcap
          exact ⟨t, e, false, [], hts, of_decide_eq_true hc, rfl, .inl ⟨rfl, none, hx, rfl⟩⟩
      · simp at hf)
  refine hcall.mono ?_
  rintro e w' ⟨v, rfl, hb, hres⟩
  refine ⟨v, rfl, hb, ?_⟩
  rw [if_neg (by simp [hplain]), if_pos hfresh]
  exact hres
end
end Go.AM
namespace Go.AM
open Go
abbrev Kont := AExit → List V → List AObj → Option D
abbrev Inl (R : Type) := Nat → List V → List AObj → (V → List AObj → Option R) → Option R
abbrev Sum := List V → List AObj → List (Nat × Nat) → Kont → Option D
def evT (E : Env) (inl : Inl D) (f : Nat) (tbl : Nat → Option Sum) :
    Code → List V → List AObj → Kont → Option D
  | .skip, regs, H, k => k .normal regs H
  | .label _, regs, H, k => k .normal regs H
  | .ret, regs, H, k => k .ret regs H
  | .exit id, regs, H, k => k (.exit id) regs H
  | .seq a b, regs, H, k => evT E inl f tbl a regs H fun e r h => match e with
    | .normal => evT E inl f tbl b r h k
    | .ret => k .ret r h
    | .exit id => k (.exit id) r h
  | .cond c a b, regs, H, k => match val regs .bool c with
    | .d .bool x => match x.b with
      | true => evT E inl f tbl a regs H k
      | false => evT E inl f tbl b regs H k
    | _ => none
  | .block id c, regs, H, k => evT E inl f tbl c regs H fun e r h => match e with
    | .normal => k .normal r h
    | .ret => k .ret r h
    | .exit id' => bif id' == id then k .normal r h else k (.exit id') r h
  | .loop c, regs, H, k =>
    match rowify E.ty (E.hint f (firstRegion c)).rows regs H [] with
    | some (regs', H', tg) => match tbl (firstRegion c) with
      | some s => s regs' H' tg k
      | none => none
    | none => none
  | .region id ops false, regs, H, k => evOps E inl (E.hint f id) (ops.toList.map (·.dst)) ops.toList regs H fun r h => k .normal r h
  | .region id ops true, regs, H, k => bif drawOk (masks ops.toList) ops.toList then evDraw E inl (E.hint f id) (masks ops.toList) ops.size (ops.toList.map (·.dst)) ops.toList 0 [] regs H fun r h => k .normal r h else none
  | _, _, _, _ => none
def Le {R : Type} (a b : Option R) : Prop := ∀ r, a = some r → b = some r
theorem Le.refl {R : Type} (a : Option R) : Le a a := fun _ h => h
theorem Le.trans {R : Type} {a b c : Option R} (h : Le a b) (k : Le b c) : Le a c := fun r hr => k r (h r hr)
theorem Le.none {R : Type} {b : Option R} : Le none b := fun _ h => by simp at h
section
variable {R : Type} {E : Env} {hint : Hint} {H : List AObj} {regs : List V}
theorem evOp_le {t : Nat} {op : Op} {k k' : V → Eff → Option R} (h : ∀ v e, Le (k v e) (k' v e)) : Le (evOp E hint H regs t op k) (evOp E hint H regs t op k') := by
  intro r hr
  obtain ⟨v, e, h1, h2⟩ := evOp_once hr
  rw [evOp_lin, h1]
  exact h v e r h2
def InlLe (inl inl' : Inl R) : Prop :=
  ∀ g args H k k', (∀ v h, Le (k v h) (k' v h)) → Le (inl g args H k) (inl' g args H k')
variable {inl inl' : Inl R}
theorem evOps_le (hi : InlLe inl inl') {ds : List (Option Nat)} {k k' : List V → List AObj → Option R} (h : ∀ r h, Le (k r h) (k' r h)) :
    ∀ (os : List Oper) (regs : List V) (H : List AObj), Le (evOps E inl hint ds os regs H k) (evOps E inl' hint ds os regs H k')
  | [], regs, H => by simp only [evOps]; exact h regs H
  | o :: os, regs, H => by
    have hgo : ∀ regs, Le
        (match inlines E regs o with
          | some (g, args) => inl g args H fun v H' => evOps E inl hint ds os (setD regs o.dst v) H' k
          | none => evOp E hint H regs o.type o.op fun v e => evOps E inl hint ds os (setD regs o.dst v) (e.app H) k)
        (match inlines E regs o with
          | some (g, args) => inl' g args H fun v H' => evOps E inl' hint ds os (setD regs o.dst v) H' k'
          | none => evOp E hint H regs o.type o.op fun v e => evOps E inl' hint ds os (setD regs o.dst v) (e.app H) k') := by
      intro regs
      split
      · exact hi _ _ _ _ _ fun v h' => evOps_le hi h os _ _
      · exact evOp_le fun v e => evOps_le hi h os _ _
    simp only [evOps]
    split
    · exact hgo _
    · rename_i j want hg
      split
      · split
        · split
          · cases want
            · exact evOps_le hi h os _ _
            · exact hgo _
          · cases want
            · exact hgo _
            · exact evOps_le hi h os _ _
        · exact evOps_le hi h os _ _
        · exact Le.refl _
      · exact Le.refl _
theorem evDraw_le (hi : InlLe inl inl') {ms : List Nat} {n : Nat} {ds : List (Option Nat)} {k k' : List V → List AObj → Option R} (h : ∀ r h, Le (k r h) (k' r h)) :
    ∀ (os : List Oper) (i : Nat) (lg : List Log) (regs : List V) (H : List AObj), Le (evDraw E inl hint ms n ds os i lg regs H k) (evDraw E inl' hint ms n ds os i lg regs H k')
  | [], i, lg, regs, H => by
    simp only [evDraw]
    cases pairsOk ms lg
    · exact Le.none
    · exact h regs H
  | o :: os, i, lg, regs, H => by
    have hgo : ∀ regs, Le
        (match inlines E regs o with
          | some (g, args) => bif pairsOk ms lg && barrier ms n i then inl g args H fun v H' => evDraw E inl hint ms n ds os (i + 1) [] (setD regs o.dst v) H' k else none
          | none => evOp E hint H regs o.type o.op fun v e => evDraw E inl hint ms n ds os (i + 1) (lg ++ [⟨i, opRefs regs o.op, e.writes H.length, e.still⟩]) (setD regs o.dst v) (e.app H) k)
        (match inlines E regs o with
          | some (g, args) => bif pairsOk ms lg && barrier ms n i then inl' g args H fun v H' => evDraw E inl' hint ms n ds os (i + 1) [] (setD regs o.dst v) H' k' else none
          | none => evOp E hint H regs o.type o.op fun v e => evDraw E inl' hint ms n ds os (i + 1) (lg ++ [⟨i, opRefs regs o.op, e.writes H.length, e.still⟩]) (setD regs o.dst v) (e.app H) k') := by
      intro regs
      split
      · cases pairsOk ms lg && barrier ms n i
        · exact Le.none
        · exact hi _ _ _ _ _ fun v h' => evDraw_le hi h os _ _ _ _
      · exact evOp_le fun v e => evDraw_le hi h os _ _ _ _
    simp only [evDraw]
    split
    · exact hgo _
    · rename_i j want hg
      split
      · split
        · split
          · split
            · cases want
              · exact evDraw_le hi h os _ _ _ _
              · exact hgo _
            · cases want
              · exact hgo _
              · exact evDraw_le hi h os _ _ _ _
          · exact Le.refl _
        · exact evDraw_le hi h os _ _ _ _
        · exact Le.refl _
      · exact Le.refl _
theorem loopN_le {head : List V → List AObj → Option (List V × List AObj)} {body body' : List V → List AObj → (AExit → List V → List AObj → Option R) → Option R}
    (hb : ∀ r h k k', (∀ e r h, Le (k e r h) (k' e r h)) → Le (body r h k) (body' r h k')) :
    ∀ (n : Nat) (regs : List V) (H : List AObj) (k k' : AExit → List V → List AObj → Option R), (∀ e r h, Le (k e r h) (k' e r h)) → Le (loopN head body n regs H k) (loopN head body' n regs H k')
  | 0, _, _, _, _, _ => Le.refl _
  | n + 1, regs, H, k, k', hk => by
    simp only [loopN]
    split
    · refine hb _ _ _ _ fun e r h => ?_
      cases e with
      | normal => exact loopN_le hb n r h k k' hk
      | ret => exact hk .ret r h
      | exit id => exact hk (.exit id) r h
    · exact Le.refl _
theorem ev_le (hi : InlLe inl inl') {f base : Nat} : ∀ (c : Code) (regs : List V) (H : List AObj) (k k' : AExit → List V → List AObj → Option R), (∀ e r h, Le (k e r h) (k' e r h)) →
    Le (ev E inl f base c regs H k) (ev E inl' f base c regs H k') := by
  intro c
  induction c with
  | skip => intro regs H k k' h; exact h .normal regs H
  | label l => intro regs H k k' h; exact h .normal regs H
  | ret => intro regs H k k' h; exact h .ret regs H
  | exit id => intro regs H k k' h; exact h (.exit id) regs H
  | seq a b iha ihb =>
    intro regs H k k' h
    refine iha _ _ _ _ fun e r hh => ?_
    cases e with
    | normal => exact ihb _ _ _ _ h
    | ret => exact h .ret r hh
    | exit id => exact h (.exit id) r hh
  | cond c a b iha ihb =>
    intro regs H k k' h
    simp only [ev]
    split
    · split
      · exact iha _ _ _ _ h
      · exact ihb _ _ _ _ h
    · exact Le.refl _
  | block id c ih =>
    intro regs H k k' h
    refine ih _ _ _ _ fun e r hh => ?_
    cases e with
    | normal => exact h .normal r hh
    | ret => exact h .ret r hh
    | exit id' =>
      simp only []
      cases id' == id
      · exact h (.exit id') r hh
      · exact h .normal r hh
  | loop c ih =>
    intro regs H k k' h
    simp only [ev]
    split
    · exact loopN_le (fun r hh k k' hk => ih r hh k k' hk) _ _ _ _ _ h
    · exact Le.refl _
  | region id ops draw =>
    intro regs H k k' h
    cases draw with
    | false => simp only [ev]; exact evOps_le hi (fun r hh => h .normal r hh) _ _ _
    | true =>
      simp only [ev]
      cases drawOk (masks ops.toList) ops.toList
      · exact Le.none
      · exact evDraw_le hi (fun r hh => h .normal r hh) _ _ _ _ _
  | rangeFunc => intro regs H k k' h; simp only [ev]; exact Le.refl _
  | scope => intro regs H k k' h; simp only [ev]; exact Le.refl _
  | goto => intro regs H k k' h; simp only [ev]; exact Le.refl _
  | refuse => intro regs H k k' h; simp only [ev]; exact Le.refl _
theorem call_mono : ∀ (n : Nat), InlLe (R := R) (call E n) (call E n)
  | 0 => fun _ _ _ _ _ _ => Le.refl _
  | n + 1 => by
    intro g args H k k' h
    simp only [call]
    split
    · split
      · rename_i cc v H' _
        cases cc
        · exact Le.none
        · exact h _ _
      · exact Le.refl _
    split
    · split
      · refine ev_le (call_mono n) _ _ _ _ _ fun e r hh => ?_
        cases e with
        | exit id => exact Le.refl _
        | normal => simp only []; split
                    · exact h _ _
                    · exact Le.refl _
        | ret => simp only []; split
                 · exact h _ _
                 · exact Le.refl _
      · exact Le.refl _
    · exact Le.refl _
end
def loopsOf : Code → List Code
  | .seq a b => loopsOf a ++ loopsOf b
  | .cond _ a b => loopsOf a ++ loopsOf b
  | .block _ c => loopsOf c
  | .loop c => c :: loopsOf c
  | _ => []
def SumOk (E : Env) (inl : Inl D) (f base : Nat) (c : Code) (s : Sum) : Prop :=
  ∀ regs H tg k, Le (s regs H tg k) (loopN (headSt base (E.hint f (firstRegion c)).live tg H.length) (fun r h k' => ev E inl f base c r h k') E.fuel regs H k)
def TblOk (E : Env) (inl : Inl D) (f base : Nat) (tbl : Nat → Option Sum) (c : Code) : Prop :=
  ∀ c' ∈ loopsOf c, ∀ s, tbl (firstRegion c') = some s → SumOk E inl f base c' s
theorem evT_le {E : Env} {inl inl' : Inl D} (hi : InlLe inl inl') (hi' : InlLe inl' inl') {f base : Nat} {tbl : Nat → Option Sum} :
    ∀ (c : Code), TblOk E inl' f base tbl c → ∀ (regs : List V) (H : List AObj) (k k' : Kont), (∀ e r h, Le (k e r h) (k' e r h)) → Le (evT E inl f tbl c regs H k) (ev E inl' f base c regs H k') := by
  intro c
  induction c with
  | skip => intro T regs H k k' h; exact h .normal regs H
  | label l => intro T regs H k k' h; exact h .normal regs H
  | ret => intro T regs H k k' h; exact h .ret regs H
  | exit id => intro T regs H k k' h; exact h (.exit id) regs H
  | seq a b iha ihb =>
    intro T regs H k k' h
    refine iha (fun c' hc => T c' (by simp [loopsOf, hc])) _ _ _ _ fun e r hh => ?_
    cases e with
    | normal => exact ihb (fun c' hc => T c' (by simp [loopsOf, hc])) _ _ _ _ h
    | ret => exact h .ret r hh
    | exit id => exact h (.exit id) r hh
  | cond c a b iha ihb =>
    intro T regs H k k' h
    simp only [ev, evT]
    cases hv : val regs K.bool c with
    | d κ x =>
      cases κ with
      | bool =>
        simp only []
        cases x.b
        · exact ihb (fun c' hc => T c' (by simp [loopsOf, hc])) _ _ _ _ h
        · exact iha (fun c' hc => T c' (by simp [loopsOf, hc])) _ _ _ _ h
      | _ => exact Le.none
    | _ => exact Le.none
  | block id c ih =>
    intro T regs H k k' h
    refine ih (fun c' hc => T c' (by simpa [loopsOf] using hc)) _ _ _ _ fun e r hh => ?_
    cases e with
    | normal => exact h .normal r hh
    | ret => exact h .ret r hh
    | exit id' =>
      simp only []
      cases id' == id
      · exact h (.exit id') r hh
      · exact h .normal r hh
  | loop c ih =>
    intro T regs H k k' h
    simp only [ev, evT]
    cases hr : rowify E.ty (E.hint f (firstRegion c)).rows regs H [] with
    | none => exact Le.none
    | some p =>
      obtain ⟨regs1, H1, tg⟩ := p
      simp only []
      split
      · rename_i s hs
        refine Le.trans (T c (by simp [loopsOf]) s hs _ _ _ _) ?_
        exact loopN_le (fun r hh k k' hk => ev_le hi' c r hh k k' hk) _ _ _ _ _ h
      · exact Le.none
  | region id ops draw =>
    intro T regs H k k' h
    cases draw with
    | false => simp only [ev, evT]; exact evOps_le hi (fun r hh => h .normal r hh) _ _ _
    | true =>
      simp only [ev, evT]
      cases drawOk (masks ops.toList) ops.toList
      · exact Le.none
      · exact evDraw_le hi (fun r hh => h .normal r hh) _ _ _ _ _
  | rangeFunc => intro T regs H k k' h; simp only [evT]; exact Le.none
  | scope => intro T regs H k k' h; simp only [evT]; exact Le.none
  | goto => intro T regs H k k' h; simp only [evT]; exact Le.none
  | refuse => intro T regs H k k' h; simp only [evT]; exact Le.none
abbrev Tbl := Nat → Nat → Nat → Nat → Option Sum
def callS (E : Env) (T : Tbl) : Nat → Inl D
  | 0, _, _, _, _ => none
  | n + 1, f, args, H, k => match E.ext f with
    | some x => match x args H with
      | some (c, v, H') => bif c then k v H' else none
      | none => none
    | none => match E.fn f with
    | some fn => match fn.body with
      | some c => evT E (callS E T n) f (T f n H.length) c (args ++ List.replicate (fn.ntmps - args.length) .undef) H fun e regs H' => match e with
        | .exit _ => none
        | _ => match resVals E regs H' fn.results.toList with
          | some vs => k (oneOf vs) H'
          | none => none
      | none => none
    | none => none
def AllOk (E : Env) (T : Tbl) : Prop := ∀ f fn c n base, E.fn f = some fn → fn.body = some c → TblOk E (call E n) f base (T f n base) c
theorem callS_le {E : Env} {T : Tbl} (hT : AllOk E T) : ∀ (n : Nat), InlLe (callS E T n) (call E n)
  | 0 => fun _ _ _ _ _ _ => Le.refl _
  | n + 1 => by
    intro f args H k k' h
    simp only [callS, call]
    cases hx : E.ext f with
    | some x =>
      simp only []
      cases x args H with
      | none => exact Le.none
      | some p =>
        obtain ⟨cc, v, H'⟩ := p
        cases cc
        · exact Le.none
        · exact h _ _
    | none =>
    simp only []
    cases hf : E.fn f with
    | none => exact Le.none
    | some fn =>
      simp only []
      cases hb : fn.body with
      | none => exact Le.none
      | some c =>
        simp only []
        refine evT_le (callS_le hT n) (call_mono n) c (hT f fn c n H.length hf hb) _ _ _ _ fun e r hh => ?_
        cases e with
        | exit id => exact Le.refl _
        | normal =>
          simp only []
          cases resVals E r hh fn.results.toList with
          | none => exact Le.none
          | some vs => exact h _ _
        | ret =>
          simp only []
          cases resVals E r hh fn.results.toList with
          | none => exact Le.none
          | some vs => exact h _ _
end Go.AM
namespace Go.AM
open Go Go.RowKit
mutual
def D.has (ty : Nat → K) : D → K → Prop
  | .bool _, κ => κ = .bool
  | .int k _, κ => κ = .int k
  | .str _, κ => κ = .str
  | .agg ds, κ => κ.isAgg = true ∧ D.hass ty ds (κ.kids ty)
  | .slice nn ds, κ => ∃ e, κ = .slice e ∧ D.hass ty ds (List.replicate ds.length (ty e)) ∧ (nn = false → ds = [])
  | .iface t x, κ => (∃ m, κ = .iface m) ∧ notIface (ty t) = true ∧ D.has ty x (ty t)
  | .nilIface, κ => ∃ m, κ = .iface m
  | .fn _, κ => κ = .func
  | .nilFunc, κ => κ = .func
  | .nilPtr, κ => ∃ e, κ = .ptr e
  | .nilMap, κ => ∃ a e, κ = .map a e
  | .tup _, _ => False
def D.hass (ty : Nat → K) : List D → List K → Prop
  | [], κs => κs = []
  | d :: ds, κs => ∃ κ κs', κs = κ :: κs' ∧ D.has ty d κ ∧ D.hass ty ds κs'
end
section
variable {ty : Nat → K}
mutual
theorem rep_has {M : Mem} : ∀ (d : D) (κ : K) (v : Value), Rep ty M d κ v → D.has ty d κ
  | .bool _, _, _, h => by simp only [Rep] at h; simp only [D.has]; exact h.1
  | .int _ _, _, _, h => by simp only [Rep] at h; simp only [D.has]; exact h.1
  | .str _, _, _, h => by simp only [Rep] at h; simp only [D.has]; exact h.1
  | .agg ds, _, _, h => by
    simp only [Rep] at h; simp only [D.has]
    obtain ⟨a, cs, _, c⟩ := h
    exact ⟨a, reps_has ds _ _ c⟩
  | .slice nn ds, _, _, h => by
    simp only [Rep] at h; simp only [D.has]
    obtain ⟨e, a, cap, h1, _, h3, h4, h5, h6⟩ := h
    refine ⟨e, h1, ?_, ?_⟩
    · rcases h6 with rfl | ⟨_, cs, _, _, h7⟩
      · simp [D.hass]
      · exact reps_has ds _ _ h7
    · rintro rfl
      have ha : a = none := by cases a with | none => rfl | some _ => simp at h4
      have := h5 ha
      exact List.eq_nil_of_length_eq_zero (by omega)
  | .iface t x, _, _, h => by
    simp only [Rep] at h; simp only [D.has]
    obtain ⟨a, b, y, _, c⟩ := h
    exact ⟨a, b, rep_has x _ _ c⟩
  | .nilIface, _, _, h => by simp only [Rep] at h; simp only [D.has]; exact h.1
  | .fn _, _, _, h => by simp only [Rep] at h; simp only [D.has]; exact h.1
  | .nilFunc, _, _, h => by simp only [Rep] at h; simp only [D.has]; exact h.1
  | .nilPtr, _, _, h => by simp only [Rep] at h; simp only [D.has]; exact h.1
  | .nilMap, _, _, h => by simp only [Rep] at h; simp only [D.has]; exact h.1
  | .tup _, _, _, h => by simp only [Rep] at h
theorem reps_has {M : Mem} : ∀ (ds : List D) (κs : List K) (cs : List Value), Reps ty M ds κs cs → D.hass ty ds κs
  | [], _, _, h => by simp only [Reps] at h; simp only [D.hass]; exact h.1
  | d :: ds, _, _, h => by
    simp only [Reps] at h; simp only [D.hass]
    obtain ⟨κ, κs', x, rest, h1, _, h2, h3⟩ := h
    exact ⟨κ, κs', h1, rep_has d _ _ h2, reps_has ds _ _ h3⟩
end
theorem each_has {M : Mem} : ∀ (ds : List D) (κs : List K) (xs : List Value), Each ty M ds κs xs → D.hass ty ds κs
  | [], _, _, h => by simp only [Each] at h; simp only [D.hass]; exact h.1
  | d :: ds, _, _, h => by
    simp only [Each] at h; simp only [D.hass]
    obtain ⟨κ, κs', x, rest, h1, _, h2, h3⟩ := h
    exact ⟨κ, κs', h1, rep_has d _ _ h2, each_has ds _ _ h3⟩
variable {P : Program} {I : World → Prop} {gl : Nat}
def Comes (P : Program) (ty : Nat → K) (I : World → Prop) (gl f : Nat) (fn : Func) (ds : List D) (r : D) (fin : (Nat → K) → List Nat → V → List AObj → Option D) : Prop :=
  ∃ (E : Env) (n : Nat) (T : Tbl), EnvOk P E I gl ∧ E.ty = ty ∧ AllOk E T ∧
    callS E T n f (List.zipWith V.d (fn.params.toList.map ty) ds) [] (fun v H => fin ty fn.resultTypes.toList v H) = some r
theorem contract_of (hgl : ∀ w, I w → gl ≤ w.heap.size) {f : Nat} {fn : Func} {c : Con} (hfresh : c.fresh = false)
    (hrun : ∀ ds r, D.hass ty ds (fn.params.toList.map ty) → c.run ds = some r → Comes P ty I gl f fn ds r finish)
    (hplain : c.plain = true → ∀ ds r, D.hass ty ds (fn.params.toList.map ty) → c.run ds = some r → r.noMem = true) : Contract P ty I f fn c := by
  classical
  intro X w ds xs r hIw hX hE hr
  have hH := each_has _ _ _ hE
  obtain ⟨E, n, T, EO, rfl, hT, hrr⟩ := hrun ds r hH hr
  have h1 := callS_le hT n f _ _ _ _ (fun _ _ => Le.refl _) r hrr
  have := contract_of_run EO hgl (depth := n) (f := f) (fn := fn) (c := { c with run := fun ds' => if ds' = ds then some r else none }) hfresh (fun ds' r' h => by
    by_cases hd : ds' = ds
    · subst hd; simp at h; subst h; exact h1
    · simp [hd] at h) (fun hp ds' r' h => by
    by_cases hd : ds' = ds
    · subst hd; simp at h; subst h; exact hplain hp ds' r hH hr
    · simp [hd] at h)
  exact this X w ds xs r hIw hX hE (by simp)
theorem contract_of_fresh (hgl : ∀ w, I w → gl ≤ w.heap.size) {f : Nat} {fn : Func} {c : Con} (hplain : c.plain = false) (hfresh : c.fresh = true)
    (hrun : ∀ ds r, D.hass ty ds (fn.params.toList.map ty) → c.run ds = some r → Comes P ty I gl f fn ds r finishFresh) : Contract P ty I f fn c := by
  classical
  intro X w ds xs r hIw hX hE hr
  have hH := each_has _ _ _ hE
  obtain ⟨E, n, T, EO, rfl, hT, hrr⟩ := hrun ds r hH hr
  have h1 := callS_le hT n f _ _ _ _ (fun _ _ => Le.refl _) r hrr
  have := contract_of_runFresh EO hgl (depth := n) (f := f) (fn := fn) (c := { c with run := fun ds' => if ds' = ds then some r else none }) hplain hfresh (fun ds' r' h => by
    by_cases hd : ds' = ds
    · subst hd; simp at h; subst h; exact h1
    · simp [hd] at h)
  exact this X w ds xs r hIw hX hE (by simp)
end
end Go.AM
namespace Go.AM
open Go
inductive Leaf where
  | i (n : Int) | b (x : Bool) | s (x : ByteArray) | d (x : D) | l (x : List D) | n (x : Nat)
inductive PD where
  | x | int (k : IntKind) | bool | str | slice | agg (ps : List PD) | iface (t : Nat) (p : PD) | nilIface | fn (f : Nat) | nilFunc | nilPtr
inductive PV where
  | undef | d (κ : K) (p : PD) | agg (κ : K) (ps : List PV) | dtup (κs : List K) (p : PD) | sref (b : Nat) | lit (e : Nat) | ptr (b : Nat) (path : List Nat) (κ : K) | cptr (κ : K) (p : PD)
  | func (f : Nat) (a c : List PV) | iface (t : Nat) (p : PV) | iter (b : Nat)
inductive PO where
  | var (κ : K) (p : PV) | row (e : Nat) (own : Bool) | iter | dead
mutual
def takeD : PD → D → Option (List Leaf)
  | .x, x => some [.d x]
  | .int k, .int k' n => if k = k' then some [.i n] else none
  | .bool, .bool x => some [.b x]
  | .str, .str x => some [.s x]
  | .slice, .slice nn ds => some [.b nn, .l ds]
  | .agg ps, .agg ds => takeDs ps ds
  | .iface t p, .iface t' x => if t = t' then takeD p x else none
  | .nilIface, .nilIface => some []
  | .fn f, .fn g => if f = g then some [] else none
  | .nilFunc, .nilFunc => some []
  | .nilPtr, .nilPtr => some []
  | _, _ => none
def takeDs : List PD → List D → Option (List Leaf)
  | [], [] => some []
  | p :: ps, x :: xs => match takeD p x with
    | some l => match takeDs ps xs with | some l' => some (l ++ l') | none => none
    | none => none
  | _, _ => none
end
mutual
def fillD : PD → List Leaf → D × List Leaf
  | .x, .d x :: r => (x, r)
  | .int k, .i n :: r => (.int k n, r)
  | .bool, .b x :: r => (.bool x, r)
  | .str, .s x :: r => (.str x, r)
  | .slice, .b nn :: .l ds :: r => (.slice nn ds, r)
  | .agg ps, r => (.agg (fillDs ps r).1, (fillDs ps r).2)
  | .iface t p, r => (.iface t (fillD p r).1, (fillD p r).2)
  | .nilIface, r => (.nilIface, r)
  | .fn f, r => (.fn f, r)
  | .nilFunc, r => (.nilFunc, r)
  | .nilPtr, r => (.nilPtr, r)
  | _, r => (.nilFunc, r)
def fillDs : List PD → List Leaf → List D × List Leaf
  | [], r => ([], r)
  | p :: ps, r => ((fillD p r).1 :: (fillDs ps (fillD p r).2).1, (fillDs ps (fillD p r).2).2)
end
mutual
theorem takeD_ok : ∀ (p : PD) (x : D) (ls rest : List Leaf), takeD p x = some ls → fillD p (ls ++ rest) = (x, rest)
  | .x, x, ls, rest, h => by simp [takeD] at h; subst h; rfl
  | .int k, x, ls, rest, h => by cases x <;> simp [takeD] at h; obtain ⟨rfl, rfl⟩ := h; rfl
  | .bool, x, ls, rest, h => by cases x <;> simp [takeD] at h; subst h; rfl
  | .str, x, ls, rest, h => by cases x <;> simp [takeD] at h; subst h; rfl
  | .slice, x, ls, rest, h => by cases x <;> simp [takeD] at h; subst h; rfl
  | .agg ps, x, ls, rest, h => by
    cases x <;> simp [takeD] at h
    have := takeDs_ok ps _ ls rest h
    simp [fillD, this]
  | .iface t p, x, ls, rest, h => by
    cases x <;> simp [takeD] at h
    obtain ⟨rfl, h⟩ := h
    have := takeD_ok p _ ls rest h
    simp [fillD, this]
  | .nilIface, x, ls, rest, h => by cases x <;> simp [takeD] at h; subst h; simp [fillD]
  | .fn f, x, ls, rest, h => by cases x <;> simp [takeD] at h; obtain ⟨rfl, rfl⟩ := h; simp [fillD]
  | .nilFunc, x, ls, rest, h => by cases x <;> simp [takeD] at h; subst h; simp [fillD]
  | .nilPtr, x, ls, rest, h => by cases x <;> simp [takeD] at h; subst h; simp [fillD]
theorem takeDs_ok : ∀ (ps : List PD) (xs : List D) (ls rest : List Leaf), takeDs ps xs = some ls → fillDs ps (ls ++ rest) = (xs, rest)
  | [], xs, ls, rest, h => by cases xs <;> simp [takeDs] at h; subst h; simp [fillDs]
  | p :: ps, xs, ls, rest, h => by
    cases xs with
    | nil => simp [takeDs] at h
    | cons x xs =>
      simp only [takeDs] at h
      split at h
      · rename_i l hl
        split at h
        · rename_i l' hl'
          simp only [Option.some.injEq] at h
          subst h
          have h1 := takeD_ok p x l (l' ++ rest) hl
          have h2 := takeDs_ok ps xs l' rest hl'
          simp [fillDs, h1, h2]
        · simp at h
      · simp at h
end
mutual
def takeV : PV → V → Option (List Leaf)
  | .undef, .undef => some []
  | .d κ p, .d κ' x => if κ = κ' then takeD p x else none
  | .agg κ ps, .agg κ' vs => if κ = κ' then takeVs ps vs else none
  | .dtup κs p, .dtup κs' x => if κs = κs' then takeD p x else none
  | .sref b, .sref b' off len => if b = b' then some [.n off, .n len] else none
  | .lit e, .lit e' ds => if e = e' then some [.l ds] else none
  | .ptr b p κ, .ptr b' p' κ' => if b = b' ∧ p = p' ∧ κ = κ' then some [] else none
  | .cptr κ p, .cptr κ' x => if κ = κ' then takeD p x else none
  | .func f a c, .func (.func f') a' c' => if f = f' then match takeVs a a' with
    | some l => match takeVs c c' with | some l' => some (l ++ l') | none => none
    | none => none else none
  | .iface t p, .iface t' v => if t = t' then takeV p v else none
  | .iter b, .iter b' => if b = b' then some [] else none
  | _, _ => none
def takeVs : List PV → List V → Option (List Leaf)
  | [], [] => some []
  | p :: ps, x :: xs => match takeV p x with
    | some l => match takeVs ps xs with | some l' => some (l ++ l') | none => none
    | none => none
  | _, _ => none
end
mutual
def fillV : PV → List Leaf → V × List Leaf
  | .undef, r => (.undef, r)
  | .d κ p, r => (.d κ (fillD p r).1, (fillD p r).2)
  | .agg κ ps, r => (.agg κ (fillVs ps r).1, (fillVs ps r).2)
  | .dtup κs p, r => (.dtup κs (fillD p r).1, (fillD p r).2)
  | .sref b, .n off :: .n len :: r => (.sref b off len, r)
  | .lit e, .l ds :: r => (.lit e ds, r)
  | .ptr b p κ, r => (.ptr b p κ, r)
  | .cptr κ p, r => (.cptr κ (fillD p r).1, (fillD p r).2)
  | .func f a c, r => (.func (.func f) (fillVs a r).1 (fillVs c (fillVs a r).2).1, (fillVs c (fillVs a r).2).2)
  | .iface t p, r => (.iface t (fillV p r).1, (fillV p r).2)
  | .iter b, r => (.iter b, r)
  | _, r => (.undef, r)
def fillVs : List PV → List Leaf → List V × List Leaf
  | [], r => ([], r)
  | p :: ps, r => ((fillV p r).1 :: (fillVs ps (fillV p r).2).1, (fillVs ps (fillV p r).2).2)
end
mutual
theorem takeV_ok : ∀ (p : PV) (x : V) (ls rest : List Leaf), takeV p x = some ls → fillV p (ls ++ rest) = (x, rest)
  | .undef, x, ls, rest, h => by cases x <;> simp [takeV] at h; subst h; simp [fillV]
  | .d κ p, x, ls, rest, h => by
    cases x <;> simp [takeV] at h
    obtain ⟨rfl, h⟩ := h
    simp [fillV, takeD_ok p _ ls rest h]
  | .agg κ ps, x, ls, rest, h => by
    cases x <;> simp [takeV] at h
    obtain ⟨rfl, h⟩ := h
    simp [fillV, takeVs_ok ps _ ls rest h]
  | .dtup κ p, x, ls, rest, h => by
    cases x <;> simp [takeV] at h
    obtain ⟨rfl, h⟩ := h
    simp [fillV, takeD_ok p _ ls rest h]
  | .sref b, x, ls, rest, h => by cases x <;> simp [takeV] at h; obtain ⟨rfl, rfl⟩ := h; rfl
  | .lit b, x, ls, rest, h => by cases x <;> simp [takeV] at h; obtain ⟨rfl, rfl⟩ := h; rfl
  | .ptr b p κ, x, ls, rest, h => by cases x <;> simp [takeV] at h; obtain ⟨⟨rfl, rfl, rfl⟩, rfl⟩ := h; simp [fillV]
  | .cptr κ p, x, ls, rest, h => by
    cases x <;> simp [takeV] at h
    obtain ⟨rfl, h⟩ := h
    simp [fillV, takeD_ok p _ ls rest h]
  | .func f a c, x, ls, rest, h => by
    cases x with
    | func g a' c' =>
      cases g with
      | func g =>
        simp only [takeV] at h
        split at h
        · rename_i hf
          subst hf
          split at h
          · rename_i l hl
            split at h
            · rename_i l' hl'
              simp only [Option.some.injEq] at h
              subst h
              have h1 := takeVs_ok a _ l (l' ++ rest) hl
              have h2 := takeVs_ok c _ l' rest hl'
              simp [fillV, h1, h2]
            · simp at h
          · simp at h
        · simp at h
      | _ => simp [takeV] at h
    | _ => simp [takeV] at h
  | .iface t p, x, ls, rest, h => by
    cases x <;> simp [takeV] at h
    obtain ⟨rfl, h⟩ := h
    simp [fillV, takeV_ok p _ ls rest h]
  | .iter b, x, ls, rest, h => by cases x <;> simp [takeV] at h; obtain ⟨rfl, rfl⟩ := h; simp [fillV]
theorem takeVs_ok : ∀ (ps : List PV) (xs : List V) (ls rest : List Leaf), takeVs ps xs = some ls → fillVs ps (ls ++ rest) = (xs, rest)
  | [], xs, ls, rest, h => by cases xs <;> simp [takeVs] at h; subst h; simp [fillVs]
  | p :: ps, xs, ls, rest, h => by
    cases xs with
    | nil => simp [takeVs] at h
    | cons x xs =>
      simp only [takeVs] at h
      split at h
      · rename_i l hl
        split at h
        · rename_i l' hl'
          simp only [Option.some.injEq] at h
          subst h
          have h1 := takeV_ok p x l (l' ++ rest) hl
          have h2 := takeVs_ok ps xs l' rest hl'
          simp [fillVs, h1, h2]
        · simp at h
      · simp at h
end
def takeO : PO → AObj → Option (List Leaf)
  | .var κ p, .var κ' v => if κ = κ' then takeV p v else none
  | .row e own, .row e' own' nn ds => if e = e' ∧ own = own' then some [.b nn, .l ds] else none
  | .iter, .iter s n => some [.s s, .n n]
  | .dead, .dead => some []
  | _, _ => none
def fillO : PO → List Leaf → AObj × List Leaf
  | .var κ p, r => (.var κ (fillV p r).1, (fillV p r).2)
  | .row e own, .b nn :: .l ds :: r => (.row e own nn ds, r)
  | .iter, .s s :: .n n :: r => (.iter s n, r)
  | _, r => (.dead, r)
theorem takeO_ok (p : PO) (x : AObj) (ls rest : List Leaf) (h : takeO p x = some ls) : fillO p (ls ++ rest) = (x, rest) := by
  cases p <;> cases x <;> simp [takeO] at h
  · obtain ⟨rfl, h⟩ := h
    simp [fillO, takeV_ok _ _ ls rest h]
  · obtain ⟨⟨rfl, rfl⟩, rfl⟩ := h; rfl
  · subst h; rfl
  · subst h; simp [fillO]
def takeOs : List PO → List AObj → Option (List Leaf)
  | [], [] => some []
  | p :: ps, x :: xs => match takeO p x with
    | some l => match takeOs ps xs with | some l' => some (l ++ l') | none => none
    | none => none
  | _, _ => none
def fillOs : List PO → List Leaf → List AObj × List Leaf
  | [], r => ([], r)
  | p :: ps, r => ((fillO p r).1 :: (fillOs ps (fillO p r).2).1, (fillOs ps (fillO p r).2).2)
theorem takeOs_ok : ∀ (ps : List PO) (xs : List AObj) (ls rest : List Leaf), takeOs ps xs = some ls → fillOs ps (ls ++ rest) = (xs, rest)
  | [], xs, ls, rest, h => by cases xs <;> simp [takeOs] at h; subst h; simp [fillOs]
  | p :: ps, xs, ls, rest, h => by
    cases xs with
    | nil => simp [takeOs] at h
    | cons x xs =>
      simp only [takeOs] at h
      split at h
      · rename_i l hl
        split at h
        · rename_i l' hl'
          simp only [Option.some.injEq] at h
          subst h
          have h1 := takeO_ok p x l (l' ++ rest) hl
          have h2 := takeOs_ok ps xs l' rest hl'
          simp [fillOs, h1, h2]
        · simp at h
      · simp at h
def takeSt (ps : List PV) (qs : List PO) (tg0 : List (Nat × Nat)) (regs : List V) (H : List AObj) (tg : List (Nat × Nat)) : Option (List Leaf) :=
  bif tg == tg0 then
    match takeVs ps regs with
    | some l => match takeOs qs H with | some l' => some (l ++ l') | none => none
    | none => none
  else none
theorem takeSt_ok {ps : List PV} {qs : List PO} {tg0 : List (Nat × Nat)} {regs : List V} {H : List AObj} {tg : List (Nat × Nat)} {ls : List Leaf} (h : takeSt ps qs tg0 regs H tg = some ls) :
    tg = tg0 ∧ regs = (fillVs ps ls).1 ∧ H = (fillOs qs (fillVs ps ls).2).1 := by
  unfold takeSt at h
  rw [Bool.cond_eq_ite] at h
  split at h
  · rename_i ht
    split at h
    · rename_i l hl
      split at h
      · rename_i l' hl'
        simp only [Option.some.injEq] at h
        subst h
        have h1 := takeVs_ok ps _ l l' hl
        have h2 := takeOs_ok qs _ l' [] hl'
        rw [List.append_nil] at h2
        exact ⟨by simpa using ht, by rw [h1], by rw [h1, h2]⟩
      · simp at h
    · simp at h
  · simp at h
theorem keep_keep (live : List Nat) : ∀ (i : Nat) (regs : List V), keep live i (keep live i regs) = keep live i regs
  | _, [] => rfl
  | i, v :: vs => by
    simp only [keep, keep_keep live (i + 1) vs]
    cases live.contains i <;> rfl
theorem headSt_keep {base n0 : Nat} {live : List Nat} {tg : List (Nat × Nat)} {regs : List V} {H : List AObj} : headSt base live tg n0 (keep live 0 regs) H = headSt base live tg n0 regs H := by
  unfold headSt
  rw [keep_keep]
theorem loopN_keep {R : Type} {base n0 : Nat} {live : List Nat} {tg : List (Nat × Nat)} {body : List V → List AObj → (AExit → List V → List AObj → Option R) → Option R} {n : Nat} {regs : List V} {H : List AObj} {k : AExit → List V → List AObj → Option R} :
    loopN (headSt base live tg n0) body n (keep live 0 regs) H k = loopN (headSt base live tg n0) body n regs H k := by
  cases n with
  | zero => rfl
  | succ n => simp only [loopN, headSt_keep]
def mkSum (live : List Nat) (ps : List PV) (qs : List PO) (tg0 : List (Nat × Nat)) (go : List Leaf → Kont → Option D) : Sum :=
  fun regs H tg k => match takeSt ps qs tg0 (keep live 0 regs) H tg with
    | some ls => go ls k
    | none => none
structure Ent where
  f : Nat
  n : Nat
  base : Nat
  id : Nat
  s : Sum
def tblOf (l : List Ent) : Tbl := fun f n base id => match l.find? fun e => e.f == f && e.n == n && e.base == base && e.id == id with
  | some e => some e.s
  | none => none
def loopAt (E : Env) (f id : Nat) : Code := match E.fn f with
  | some fn => match fn.body with
    | some c => ((loopsOf c).find? fun c' => firstRegion c' == id).getD .skip
    | none => .skip
  | none => .skip
def oneLoop (E : Env) (f id : Nat) : Bool := match E.fn f with
  | some fn => match fn.body with
    | some c => ((loopsOf c).filter fun c' => firstRegion c' == id).length == 1
    | none => false
  | none => false
theorem loopAt_ok {E : Env} {f id : Nat} (h : oneLoop E f id = true) {fn : Func} {c c' : Code} (hf : E.fn f = some fn) (hb : fn.body = some c) (hc : c' ∈ loopsOf c) (hi : firstRegion c' = id) : c' = loopAt E f id := by
  unfold oneLoop at h
  unfold loopAt
  rw [hf] at h ⊢
  simp only [hb] at h ⊢
  have hm : c' ∈ (loopsOf c).filter fun c' => firstRegion c' == id := List.mem_filter.2 ⟨hc, by simpa using hi⟩
  obtain ⟨x, hx⟩ := List.length_eq_one_iff.1 (by simpa using h)
  rw [hx] at hm
  have h1 : c' = x := by simpa using hm
  rw [← List.head?_filter, hx]
  simp [h1]
theorem AllOk.nil {E : Env} : AllOk E (tblOf []) := fun f fn c n base _ _ c' _ s hs => by simp [tblOf] at hs
theorem AllOk.add {E : Env} {l : List Ent} (h : AllOk E (tblOf l)) (e : Ent) (h1 : oneLoop E e.f e.id = true) (hs : SumOk E (call E e.n) e.f e.base (loopAt E e.f e.id) e.s) : AllOk E (tblOf (e :: l)) := by
  intro f fn c n base hf hb c' hc s h2
  simp only [tblOf, List.find?_cons] at h2
  cases hm : (e.f == f && e.n == n && e.base == base && e.id == firstRegion c') with
  | true =>
    rw [hm] at h2
    simp only [Bool.and_eq_true, beq_iff_eq] at hm
    obtain ⟨⟨⟨rfl, rfl⟩, rfl⟩, hid⟩ := hm
    simp only [Option.some.injEq] at h2
    subst h2
    rw [loopAt_ok h1 hf hb hc hid.symm]
    exact hs
  | false =>
    rw [hm] at h2
    exact h f fn c n base hf hb c' hc s h2
theorem loopsOf_trans : ∀ (c : Code) (c' c'' : Code), c' ∈ loopsOf c → c'' ∈ loopsOf c' → c'' ∈ loopsOf c
  | .seq a b, c', c'', h, k => by
    simp only [loopsOf, List.mem_append] at h ⊢
    rcases h with h | h
    · exact .inl (loopsOf_trans a c' c'' h k)
    · exact .inr (loopsOf_trans b c' c'' h k)
  | .cond _ a b, c', c'', h, k => by
    simp only [loopsOf, List.mem_append] at h ⊢
    rcases h with h | h
    · exact .inl (loopsOf_trans a c' c'' h k)
    · exact .inr (loopsOf_trans b c' c'' h k)
  | .block _ c, c', c'', h, k => by
    simp only [loopsOf] at h ⊢
    exact loopsOf_trans c c' c'' h k
  | .loop c, c', c'', h, k => by
    simp only [loopsOf, List.mem_cons] at h ⊢
    rcases h with rfl | h
    · exact .inr k
    · exact .inr (loopsOf_trans c c' c'' h k)
  | .skip, _, _, h, _ => by simp [loopsOf] at h
  | .region .., _, _, h, _ => by simp [loopsOf] at h
  | .ret, _, _, h, _ => by simp [loopsOf] at h
  | .exit _, _, _, h, _ => by simp [loopsOf] at h
  | .label _, _, _, h, _ => by simp [loopsOf] at h
  | .scope _, _, _, h, _ => by simp [loopsOf] at h
  | .rangeFunc .., _, _, h, _ => by simp [loopsOf] at h
  | .goto _, _, _, h, _ => by simp [loopsOf] at h
  | .refuse _, _, _, h, _ => by simp [loopsOf] at h
theorem loopAt_mem {E : Env} {f id : Nat} (h : oneLoop E f id = true) : ∃ fn c, E.fn f = some fn ∧ fn.body = some c ∧ loopAt E f id ∈ loopsOf c ∧ firstRegion (loopAt E f id) = id := by
  unfold oneLoop at h
  unfold loopAt
  split at h
  · rename_i fn hf
    split at h
    · rename_i c hb
      refine ⟨fn, c, hf, hb, ?_⟩
      obtain ⟨x, hx⟩ := List.length_eq_one_iff.1 (by simpa using h)
      rw [← List.head?_filter, hx]
      have hm : x ∈ (loopsOf c).filter fun c' => firstRegion c' == id := by rw [hx]; simp
      rw [List.mem_filter] at hm
      exact ⟨hm.1, by simpa using hm.2⟩
    · simp at h
  · simp at h
def loopM {R : Type} (head : List V → List AObj → Option (List V × List AObj)) (body : List V → List AObj → (AExit → List V → List AObj → Option R) → Option R) :
    Nat → List V → List AObj → (AExit → List V → List AObj → Option R) → Option R
  | 0, regs, H, k => body regs H fun e r h => match e with
    | .normal => none
    | .ret => k .ret r h
    | .exit id => k (.exit id) r h
  | n + 1, regs, H, k => body regs H fun e r h => match e with
    | .normal => match head r h with | some p => loopM head body n p.1 p.2 k | none => none
    | .ret => k .ret r h
    | .exit id => k (.exit id) r h
theorem loopN_eq {R : Type} {head : List V → List AObj → Option (List V × List AObj)} {body : List V → List AObj → (AExit → List V → List AObj → Option R) → Option R} {k : AExit → List V → List AObj → Option R} :
    ∀ (n : Nat) (regs : List V) (H : List AObj), loopN head body (n + 1) regs H k = match head regs H with | some p => loopM head body n p.1 p.2 k | none => none
  | 0, regs, H => by
    simp only [loopN, loopM]
    cases head regs H <;> rfl
  | n + 1, regs, H => by
    rw [loopN]
    cases head regs H with
    | none => rfl
    | some p =>
      simp only [loopM]
      congr 1
      funext e r h
      cases e with
      | normal => exact loopN_eq n r h
      | _ => rfl
theorem sumOk_of {E : Env} {T : Tbl} (hT : AllOk E T) {M f n base id n0 : Nat} {ps : List PV} {qs : List PO} {tg0 : List (Nat × Nat)} {go : List Leaf → Kont → Option D} (h1 : oneLoop E f id = true) (hM : E.fuel = M + 1)
    (h : ∀ ls k r, go ls k = some r → (fillOs qs (fillVs ps ls).2).1.length = n0 ∧ headSt base (E.hint f id).live tg0 n0 (fillVs ps ls).1 (fillOs qs (fillVs ps ls).2).1 = some ((fillVs ps ls).1, (fillOs qs (fillVs ps ls).2).1) ∧
      loopM (headSt base (E.hint f id).live tg0 n0) (fun r h k' => evT E (callS E T n) f (T f n base) (loopAt E f id) r h k') M (fillVs ps ls).1 (fillOs qs (fillVs ps ls).2).1 k = some r) :
    SumOk E (call E n) f base (loopAt E f id) (mkSum (E.hint f id).live ps qs tg0 go) := by
  obtain ⟨fn, cf, hf, hb, hin, hid⟩ := loopAt_mem h1
  intro regs H tg k r hr
  unfold mkSum at hr
  split at hr
  · rename_i ls hls
    obtain ⟨rfl, h3, h4⟩ := takeSt_ok hls
    obtain ⟨k1, k2, k3⟩ := h ls k r hr
    rw [← h3, ← h4] at k2 k3
    rw [← h4] at k1
    have k4 : loopN (headSt base (E.hint f id).live tg n0) (fun r h k' => evT E (callS E T n) f (T f n base) (loopAt E f id) r h k') (M + 1) (keep (E.hint f id).live 0 regs) H k = some r := by
      rw [loopN_eq, k2]
      exact k3
    rw [loopN_keep] at k4
    rw [hid, hM, k1]
    refine loopN_le (fun r hh k k' hk => evT_le (callS_le hT n) (call_mono n) _ (fun c' hc => ?_) r hh k k' hk) _ _ _ _ _ (fun _ _ _ => Le.refl _) r k4
    exact hT f fn cf n base hf hb c' (loopsOf_trans cf _ _ hin hc)
  · simp at hr
def us : Nat → List V → List V
  | 0, l => l
  | n + 1, l => .undef :: us n l
def up : Nat → List PV → List PV
  | 0, l => l
  | n + 1, l => .undef :: up n l
def goS {S X : Type} (st : S → (S → Option D) → (X → Option D) → Option D) : Nat → S → (X → Option D) → Option D
  | 0, s, K => st s (fun _ => none) K
  | N + 1, s, K => st s (fun s' => goS st N s' K) K
def kontL (hd : List V → List AObj → Option (List V × List AObj)) (nx : List V → List AObj → Option D) (k : Kont) : Kont := fun e r h => match e with
  | .normal => match hd r h with | some p => nx p.1 p.2 | none => none
  | .ret => k .ret r h
  | .exit id => k (.exit id) r h
def sumS {S X : Type} (live : List Nat) (ps : List PV) (qs : List PO) (tg0 : List (Nat × Nat)) (of : List Leaf → Option S) (st : S → (S → Option D) → (X → Option D) → Option D) (ex : Kont → X → Option D) (M : Nat) : Sum :=
  mkSum live ps qs tg0 fun ls k => match of ls with | some s => goS st M s (ex k) | none => none
theorem sumOk_st {S X : Type} {E : Env} {T : Tbl} (hT : AllOk E T) {M f n base id n0 : Nat} {ps : List PV} {qs : List PO} {tg0 : List (Nat × Nat)} {of : List Leaf → Option S} {lv : S → List Leaf} {st : S → (S → Option D) → (X → Option D) → Option D} {ex : Kont → X → Option D}
    (h1 : oneLoop E f id = true) (hM : E.fuel = M + 1) (hof : ∀ ls s, of ls = some s → ls = lv s)
    (hlen : ∀ s, (fillOs qs (fillVs ps (lv s)).2).1.length = n0)
    (hhead : ∀ s, headSt base (E.hint f id).live tg0 n0 (fillVs ps (lv s)).1 (fillOs qs (fillVs ps (lv s)).2).1 = some ((fillVs ps (lv s)).1, (fillOs qs (fillVs ps (lv s)).2).1))
    (hst : ∀ s nx k, evT E (callS E T n) f (T f n base) (loopAt E f id) (fillVs ps (lv s)).1 (fillOs qs (fillVs ps (lv s)).2).1 (kontL (headSt base (E.hint f id).live tg0 n0) nx k) = st s (fun s' => nx (fillVs ps (lv s')).1 (fillOs qs (fillVs ps (lv s')).2).1) (ex k)) :
    SumOk E (call E n) f base (loopAt E f id) (sumS (E.hint f id).live ps qs tg0 of st ex M) := by
  refine sumOk_of (n0 := n0) hT h1 hM (fun ls k r hr => ?_)
  split at hr
  · rename_i s hs
    obtain rfl := hof _ _ hs
    refine ⟨hlen s, hhead s, ?_⟩
    have key : ∀ N s, loopM (headSt base (E.hint f id).live tg0 n0) (fun r h k' => evT E (callS E T n) f (T f n base) (loopAt E f id) r h k') N (fillVs ps (lv s)).1 (fillOs qs (fillVs ps (lv s)).2).1 k = goS st N s (ex k) := by
      intro N
      induction N with
      | zero =>
        intro s
        have h := hst s (fun _ _ => none) k
        simp only [goS]
        rw [← h]
        simp only [loopM]
        congr 1
        funext e r h
        unfold kontL
        cases e with
        | normal => simp only []; split <;> rfl
        | ret => rfl
        | exit id => rfl
      | succ N ih =>
        intro s
        have h := hst s (fun r h => loopM (headSt base (E.hint f id).live tg0 n0) (fun r h k' => evT E (callS E T n) f (T f n base) (loopAt E f id) r h k') N r h k) k
        simp only [goS]
        rw [show (fun s' => goS st N s' (ex k)) = fun s' => loopM (headSt base (E.hint f id).live tg0 n0) (fun r h k' => evT E (callS E T n) f (T f n base) (loopAt E f id) r h k') N (fillVs ps (lv s')).1 (fillOs qs (fillVs ps (lv s')).2).1 k from funext fun s' => (ih s').symm]
        rw [← h]
        simp only [loopM]
        rfl
    rw [key]
    exact hr
  · simp at hr
end Go.AM
namespace Go.AM
open Go
def nI (n : Nat) : Int := n
def ltI (a b : Int) : Bool := decide (a < b)
def leI (a b : Int) : Bool := decide (a ≤ b)
def gtI (a b : Int) : Bool := decide (a > b)
def geI (a b : Int) : Bool := decide (a ≥ b)
def eqI (a b : Int) : Bool := a == b
def neI (a b : Int) : Bool := a != b
def inb (i : Int) (n : Nat) : Bool := decide (0 ≤ i) && decide (i < (n : Int))
def leN (a b : Nat) : Bool := decide (a ≤ b)
def eqN (a b : Nat) : Bool := decide (a = b)
def mx (n : Nat) : Bool := decide (n ≤ maxLen)
def ix (l : List D) (n : Nat) : D := l.getD n .nilFunc
def ap (a b : List D) : List D := a ++ b
def rp (n : Nat) (d : D) : List D := List.replicate n d
def ad (k : IntKind) (a b : Int) : Int := k.wrap (a + b)
def sb (k : IntKind) (a b : Int) : Int := k.wrap (a - b)
def ml (k : IntKind) (a b : Int) : Int := k.wrap (a * b)
def cv (k : IntKind) (a : Int) : Int := k.wrap a
def shlI (k : IntKind) (a : Int) (n : Nat) : Int := k.wrap (a * 2 ^ (min n k.bits))
def shrI (k : IntKind) (a : Int) (n : Nat) : Int := a.fdiv (2 ^ (min n k.bits))
def andI (k : IntKind) (a b : Int) : Int := k.wrap (BitVec.ofInt k.bits a &&& BitVec.ofInt k.bits b).toNat
def orI (k : IntKind) (a b : Int) : Int := k.wrap (BitVec.ofInt k.bits a ||| BitVec.ofInt k.bits b).toNat
def xorI (k : IntKind) (a b : Int) : Int := k.wrap (BitVec.ofInt k.bits a ^^^ BitVec.ofInt k.bits b).toNat
def andNotI (k : IntKind) (a b : Int) : Int := k.wrap (BitVec.ofInt k.bits a &&& ~~~(BitVec.ofInt k.bits b)).toNat
def notI (k : IntKind) (a : Int) : Int := k.wrap (BitVec.ofInt k.bits (if k.signed then -1 else k.max) ^^^ BitVec.ofInt k.bits a).toNat
def maxi (a b : Int) : Int := if b > a then b else a
def mini (a b : Int) : Int := if b < a then b else a
def quoI (k : IntKind) (a b : Int) : Int := k.wrap (a.tdiv b)
def remI (a b : Int) : Int := a.tmod b
def eqS (a b : ByteArray) : Bool := a.toList == b.toList
def ltS (a b : ByteArray) : Bool := Op.bytesLess a.toList b.toList
def cat (a b : ByteArray) : Option D := if a.size + b.size ≤ maxInt then some (.str (a ++ b)) else none
def bs (l : List UInt8) : ByteArray := ⟨l.toArray⟩
def bd (o : Option D) (f : D → Option D) : Option D := match o with | some r => f r | none => none
def bdB (x : D) (f : Bool → Option D) : Option D := match x with | .bool b => f b | _ => none
abbrev di (x : Int) : D := .int .i64 x
abbrev db (x : Bool) : D := .bool x
abbrev dS (x : ByteArray) : D := .str x
abbrev da (l : List D) : D := .agg l
abbrev dl (b : Bool) (l : List D) : D := .slice b l
end Go.AM
namespace Go.AM
open Go Go.RowKit
def K.flat (ty : Nat → K) : Nat → K → Bool
  | _, .bool => true
  | _, .int _ => true
  | _, .str => true
  | _, .func => true
  | n + 1, .struct fs => fs.all fun f => K.flat ty n (ty f)
  | n + 1, .array _ e => K.flat ty n (ty e)
  | _, _ => false
section
variable {ty : Nat → K}
mutual
theorem has_flat : ∀ (d : D) (n : Nat) (κ : K), D.has ty d κ → K.flat ty n κ = true → d.noMem = true
  | .bool _, _, _, _, _ => rfl
  | .int _ _, _, _, _, _ => rfl
  | .str _, _, _, _, _ => rfl
  | .agg ds, n, κ, h, hf => by
    simp only [D.has] at h
    simp only [D.noMem]
    obtain ⟨h1, h2⟩ := h
    cases κ <;> simp [K.isAgg] at h1
    · cases n with
      | zero => simp [K.flat] at hf
      | succ n =>
        simp only [K.flat, List.all_eq_true] at hf
        refine hass_flat ds n _ h2 fun κ hκ => ?_
        simp only [K.kids, List.mem_map] at hκ
        obtain ⟨f, hfm, rfl⟩ := hκ
        exact hf f hfm
    · cases n with
      | zero => simp [K.flat] at hf
      | succ n =>
        simp only [K.flat] at hf
        refine hass_flat ds n _ h2 fun κ hκ => ?_
        simp only [K.kids] at hκ
        rw [List.eq_of_mem_replicate hκ]
        exact hf
  | .slice nn ds, n, κ, h, hf => by
    simp only [D.has] at h
    obtain ⟨e, rfl, _⟩ := h
    cases n <;> simp [K.flat] at hf
  | .iface t x, n, κ, h, hf => by
    simp only [D.has] at h
    obtain ⟨⟨m, rfl⟩, _⟩ := h
    cases n <;> simp [K.flat] at hf
  | .nilIface, _, _, _, _ => rfl
  | .fn _, _, _, _, _ => rfl
  | .nilFunc, _, _, _, _ => rfl
  | .nilPtr, _, _, _, _ => rfl
  | .nilMap, _, _, _, _ => rfl
  | .tup _, _, _, h, _ => by simp [D.has] at h
theorem hass_flat : ∀ (ds : List D) (n : Nat) (κs : List K), D.hass ty ds κs → (∀ κ ∈ κs, K.flat ty n κ = true) → D.noMems ds = true
  | [], _, _, _, _ => rfl
  | d :: ds, n, κs, h, hf => by
    simp only [D.hass] at h
    obtain ⟨κ, κs', rfl, h1, h2⟩ := h
    simp only [D.noMems, Bool.and_eq_true]
    exact ⟨has_flat d n κ h1 (hf κ (by simp)), hass_flat ds n κs' h2 fun κ hκ => hf κ (by simp [hκ])⟩
end
theorem res_flat {M : Mem} {ts : List Nat} {r : D} {v : Value} {n : Nat} (h : ResRep ty M ts r v) (hf : ts.all (fun t => K.flat ty n (ty t)) = true) : r.noMem = true := by
  rw [List.all_eq_true] at hf
  unfold ResRep at h
  split at h
  · rename_i t
    exact has_flat r n _ (rep_has _ _ _ h) (hf t (by simp))
  · obtain ⟨ds, xs, rfl, _, hE⟩ := h
    simp only [D.noMem]
    refine hass_flat ds n _ (each_has _ _ _ hE) fun κ hκ => ?_
    simp only [List.mem_map] at hκ
    obtain ⟨t, ht, rfl⟩ := hκ
    exact hf t ht
variable {P : Program} {I : World → Prop} {gl : Nat}
theorem contract_flat (hgl : ∀ w, I w → gl ≤ w.heap.size) {f : Nat} {fn : Func} {run : List D → Option D} {n : Nat} {p : Bool}
    (hp : p = true → fn.resultTypes.toList.all (fun t => K.flat ty n (ty t)) = true)
    (hrun : ∀ ds r, D.hass ty ds (fn.params.toList.map ty) → run ds = some r → Comes P ty I gl f fn ds r finish) : Contract P ty I f fn { run := run, fresh := false, plain := p } := by
  have h0 : Contract P ty I f fn { run := run, fresh := false, plain := false } := contract_of hgl rfl hrun (by simp)
  intro X w ds xs r hIw hX hE hr
  refine (h0 X w ds xs r hIw hX hE hr).mono ?_
  rintro e w' ⟨v, rfl, hb, hres⟩
  refine ⟨v, rfl, hb, ?_⟩
  simp only [Bool.false_eq_true, if_false] at hres ⊢
  cases p with
  | false => simpa using hres
  | true =>
    simp only [if_true]
    exact fun M => noMem_res (res_flat hres (hp rfl)) hres
theorem has_int {d : D} {k : IntKind} (h : D.has ty d (.int k)) : ∃ n, d = .int k n := by
  cases d <;> simp [D.has, K.isAgg] at h
  subst h; exact ⟨_, rfl⟩
theorem has_bool {d : D} (h : D.has ty d .bool) : ∃ n, d = .bool n := by cases d <;> simp [D.has, K.isAgg] at h; exact ⟨_, rfl⟩
theorem has_str {d : D} (h : D.has ty d .str) : ∃ n, d = .str n := by cases d <;> simp [D.has, K.isAgg] at h; exact ⟨_, rfl⟩
theorem has_slice {d : D} {e : Nat} (h : D.has ty d (.slice e)) : ∃ nn ds, d = .slice nn ds ∧ (∀ x ∈ ds, D.has ty x (ty e)) ∧ (nn = false → ds = []) := by
  cases d <;> simp only [D.has, K.isAgg, reduceCtorEq, false_and, exists_false] at h
  case slice nn ds =>
  obtain ⟨e', he, h1, h2⟩ := h
  obtain rfl : e = e' := by simpa using he
  refine ⟨_, _, rfl, ?_, h2⟩
  clear h2
  induction ds with
  | nil => simp
  | cons d ds ih =>
    simp only [List.length_cons, List.replicate_succ, D.hass] at h1
    obtain ⟨κ, κs', hc, h3, h4⟩ := h1
    simp only [List.cons.injEq] at hc
    obtain ⟨rfl, rfl⟩ := hc
    intro x hx
    rcases List.mem_cons.1 hx with rfl | hx
    · exact h3
    · exact ih h4 x hx
theorem has_struct {d : D} {fs : List Nat} (h : D.has ty d (.struct fs)) : ∃ ds, d = .agg ds ∧ D.hass ty ds (fs.map ty) := by
  cases d <;> simp [D.has] at h
  exact ⟨_, rfl, h.2⟩
theorem has_array {d : D} {n e : Nat} (h : D.has ty d (.array n e)) : ∃ ds, d = .agg ds ∧ D.hass ty ds (List.replicate n (ty e)) := by
  cases d <;> simp [D.has] at h
  exact ⟨_, rfl, h.2⟩
theorem hass_nil {ds : List D} (h : D.hass ty ds []) : ds = [] := by cases ds <;> simp [D.hass] at h; rfl
theorem hass_cons {ds : List D} {κ : K} {κs : List K} (h : D.hass ty ds (κ :: κs)) : ∃ d ds', ds = d :: ds' ∧ D.has ty d κ ∧ D.hass ty ds' κs := by
  cases ds with
  | nil => simp [D.hass] at h
  | cons d ds =>
    simp only [D.hass] at h
    obtain ⟨κ', κs', hc, h1, h2⟩ := h
    simp only [List.cons.injEq] at hc
    obtain ⟨rfl, rfl⟩ := hc
    exact ⟨d, ds, rfl, h1, h2⟩
end
end Go.AM
namespace Go.AM
open Go Go.RowKit Go.Proofs
section
variable {P : Program} {ρ : Go.Shelf.Ren} {ty : Nat → K} {I : World → Prop} {gl : Nat}
def decodeC : Con := { run := fun ds => match ds with | [d] => some (.tup [.int .i32 (Lib.decodeGo d.s).1, .int .i64 (Lib.decodeGo d.s).2]) | _ => none, plain := true }
theorem decodeC_ok (L : Lays.n197 P ρ) (hI : ∀ w, I w → Lib.Utf8Tabs (ρ.g 3) (ρ.g 4) w) {fn : Func} {t5 t3 : Nat} (hp : fn.params.toList.map ty = [.str]) (hr : fn.resultTypes.toList = [t5, t3]) (h5 : ty t5 = .int .i32) (h3 : ty t3 = .int .i64) :
    Contract P ty I (ρ.f 197) fn decodeC := by
  intro X w ds xs r hIw hX hE hrun
  rw [hp] at hE
  match ds, hE with
  | [d], hE =>
    simp only [Each] at hE
    obtain ⟨κ, κs', x, rest, he, rfl, hx, hn, rfl⟩ := hE
    simp only [List.cons.injEq] at he
    obtain ⟨rfl, _⟩ := he
    have hs := rep_str hx
    subst hs
    simp only [decodeC, Option.some.injEq] at hrun
    subst hrun
    refine (Any.utf8_DecodeRuneInString L d.s w (hI w hIw)).mono ?_
    rintro e w' ⟨rfl, hb⟩
    refine ⟨_, rfl, hb, ?_⟩
    have hpl : decodeC.plain = true := rfl
    rw [if_pos hpl]
    intro M
    rw [hr]
    refine ⟨_, _, rfl, rfl, ?_⟩
    simp only [List.map_cons, List.map_nil, h5, h3, Each, Rep]
    exact ⟨_, _, _, _, rfl, rfl, ⟨rfl, rfl⟩, _, _, _, _, rfl, rfl, ⟨rfl, rfl⟩, rfl, rfl⟩
  | [], hE => simp [Each] at hE
  | d1 :: d2 :: ds, hE =>
    simp only [Each] at hE
    obtain ⟨κ, κs', x, rest, he, rfl, hx, κ2, κs2, x2, r2, h2, _⟩ := hE
    rw [h2] at he
    simp at he
def insertX (e : Nat) : Ext := fun args H => match args with
  | [s, .d (.int .i64) x, .sref b2 off2 len2] => match H[b2]? with
    | some (.row e2 _ _ ds2) =>
        match s with
        | .sref b off len => match H[b]? with
          | some (.row e1 true _ ds) =>
            some ((decide (e2 = e) && decide (0 < len2)) && (decide (e1 = e) && decide (b ≠ b2) && decide (0 ≤ x.i) && decide (x.i ≤ (len : Int)) && decide (len + len2 ≤ maxLen)),
              .sref H.length 0 (len + len2), H.set b .dead ++ [.row e true true (((ds.drop off).take len).take x.i.toNat ++ (ds2.drop off2).take len2 ++ ((ds.drop off).take len).drop x.i.toNat)])
          | _ => none
        | .d (.slice e1) (.slice false []) => some ((decide (e2 = e) && decide (0 < len2)) && (decide (e1 = e) && decide (x.i = 0) && decide (len2 ≤ maxLen)), .sref H.length 0 len2, H ++ [.row e true true ((ds2.drop off2).take len2)])
        | _ => none
    | _ => none
  | _ => none
theorem setCells_put {b : Nat} {et : Nat} {fz : Nat × Nat} : ∀ (vs : List Value) (o : Nat) (pre mid post : List Value) (w : World), w.heap[b]? = some (.cells (pre ++ mid ++ post).toArray et fz) → mid.length = vs.length → pre.length = o →
    w.setCells b o vs = putBlk w b (.cells (pre ++ vs ++ post).toArray et fz)
  | [], o, pre, mid, post, w, h, hm, hp => by
    have : mid = [] := by simpa using hm
    subst this
    rw [World.setCells, putBlk_same h]
  | v :: vs, o, pre, mid, post, w, h, hm, hp => by
    cases mid with
    | nil => simp at hm
    | cons m mid =>
      have h1 := setCell_put (o := o) (v := v) h
      have h2 : (pre ++ m :: mid ++ post).toArray.setIfInBounds o v = ((pre ++ [v]) ++ mid ++ post).toArray := by
        apply Array.toList_inj.1
        simp [List.set_append, ← hp]
      rw [h2] at h1
      rw [World.setCells, h1]
      rw [setCells_put vs (o + 1) (pre ++ [v]) mid post _ (by rw [putBlk_heap, if_pos ⟨rfl, lt_of_block h⟩]) (by simpa using hm) (by simp [hp])]
      simp [putBlk]
theorem below_da (w : World) (o : Obj) : Below w.heap.size w (w.drew.alloc o) :=
  ⟨rfl, rfl, rfl, by show w.heap.size ≤ (w.heap.push o).size; simp, fun k hk => by show (w.heap.push o)[k]? = _; rw [Array.getElem?_push, if_neg (by omega)]⟩
theorem heap_da (w : World) (o : Obj) : (w.drew.alloc o).heap[w.heap.size]? = some o := by show (w.heap.push o)[w.heap.size]? = _; simp
theorem oneCell_of_scal {v : Value} (h : AM.scal v = true) : v.oneCell' = true := by cases v <;> simp_all [AM.scal, Value.oneCell']
theorem insertX_ok (T : TyOk P ty) (L : Lays2.n22 P ρ) {e : Nat} (he : ty e = .str) : ExtOk P ty I gl (ρ.f 22) (insertX e) := by
  intro X B0 w0 μ H w args v H' xs _ _ h hargs hrun
  have hone : P.cellsOf e = 1 := by rw [T.szOk e (by rw [he]; simp), he]; rfl
  have hne : ty e ≠ .bad := by rw [he]; simp
  unfold insertX at hrun
  split at hrun
  · rename_i s x b2 off2 len2
    simp only [RVt] at hargs
    obtain ⟨sv, _, rfl, hs, iv, _, rfl, hi, vv, _, rfl, hv, rfl⟩ := hargs
    replace hi := hi.resolve_left (by simp)
    obtain ⟨_, hi⟩ := hi
    simp only [RV] at hi
    have hiv := rep_int (hi.1 ▸ hi.2)
    replace hv := hv.resolve_left (by simp)
    obtain ⟨_, hv⟩ := hv
    simp only [RV] at hv
    obtain ⟨l2, n2, e2, hμ2, hl2, _, hlen2, hv⟩ := hv
    split at hrun
    · rename_i e2x own2 nn2 ds2 hH2
      obtain ⟨rfl, rfl⟩ := row_loc h hH2 hμ2 hl2
      have hobj2 := h.obj b2 l2 _ hμ2 hH2
      have hc2 : e2 = e ∧ 0 < len2 := by
        split at hrun
        · split at hrun
          · simp only [Option.some.injEq, Prod.mk.injEq, Bool.and_eq_true, decide_eq_true_eq] at hrun
            exact hrun.1.1
          · simp at hrun
        · simp only [Option.some.injEq, Prod.mk.injEq, Bool.and_eq_true, decide_eq_true_eq] at hrun
          exact hrun.1.1
        · simp at hrun
      obtain ⟨rfl, hpos⟩ := hc2
      have hvirt2 : l2.virt = false := by
        rcases hv with ⟨_, h0, _⟩ | ⟨h0, _⟩ | ⟨h0, _⟩
        · omega
        · exact h0
        · exact h0
      obtain ⟨c2, hvv, hc21, hc22, hre2⟩ : ∃ c, vv = .slice (some ⟨l2.blk, l2.base + off2 * P.cellsOf e2, none⟩) len2 c ∧ len2 ≤ c ∧ off2 + c ≤ l2.cap ∧ ds2.length ≤ off2 + c := by
        rcases hv with ⟨h0, _⟩ | ⟨_, c, h1⟩ | ⟨_, h0, _⟩
        · rw [hvirt2] at h0; simp at h0
        · exact ⟨c, h1⟩
        · omega
      subst hvv
      simp only [ObjOk] at hobj2
      obtain ⟨_, _, _, hobj2⟩ := hobj2
      rw [if_neg (by simp [hvirt2])] at hobj2
      obtain ⟨_, hcap2, cs2, et2, fz2, pre2, mid2, post2, hb2, hcs2, hpre2, hrep2, hpost2, hfz2⟩ := hobj2
      obtain ⟨p1, vs, p2, e2a, l2a, l2b, hvs, _, _⟩ := Reps.drop_take T.szOk hne hrep2 hlen2
      rw [hone] at l2a l2b
      simp only [Nat.mul_one] at l2a l2b
      have hvsc : ∀ v ∈ vs, v.oneCell' = true := fun v hv => oneCell_of_scal (Reps.scal _ _ _ _ hvs v hv)
      have hvcell : ∀ (w' : World), w'.heap[l2.blk]? = w.heap[l2.blk]? → ∀ (j : Nat) (v : Value), vs[j]? = some v → w'.cell? ⟨l2.blk, l2.base + off2 * P.cellsOf e2 + j, none⟩ = some v := by
        intro w' hw' j v hj
        rw [cell_congr hw']
        have := block_cells hb2 (c1 := pre2 ++ p1) (y := vs) (c2 := p2 ++ post2) (by rw [hcs2, e2a]; simp) j v hj
        simpa [hpre2, l2a, hone, Nat.add_assoc] using this
      split at hrun
      · rename_i b off len
        replace hs := hs.resolve_left (by simp)
        obtain ⟨_, hs⟩ := hs
        simp only [RV] at hs
        obtain ⟨l, n, e1, hμ, hl, _, hlen, hs⟩ := hs
        split at hrun
        · rename_i e1x nn ds hH
          obtain ⟨rfl, rfl⟩ := row_loc h hH hμ hl
          simp only [Option.some.injEq, Prod.mk.injEq, Bool.and_eq_true, decide_eq_true_eq] at hrun
          obtain ⟨⟨_, ⟨⟨⟨rfl, hbb⟩, hx0⟩, hxl⟩, hmax⟩, hrun⟩ := hrun
          obtain ⟨rfl, rfl⟩ := hrun
          unfold maxLen at hmax
          obtain ⟨i, hxi⟩ : ∃ i : Nat, x.i = (i : Int) := ⟨x.i.toNat, by omega⟩
          rw [hxi] at hiv hxl
          rw [hxi]
          simp only [Int.toNat_natCast]
          subst hiv
          have hil : i ≤ len := by omega
          have hobj := h.obj b l _ hμ hH
          obtain ⟨hd1, hd2⟩ := h.less hμ hH (o' := .dead) (by simp [ownB]) (by simp [usesB]) (fun _ _ => trivial)
          have hdl : (H.set b .dead).length = H.length := by simp
          have hdlen : ((ds.drop off).take len).length = len := by simp; omega
          have hvlen : ((ds2.drop off2).take len2).length = len2 := by simp; omega
          have hnew : (((ds.drop off).take len).take i ++ (ds2.drop off2).take len2 ++ ((ds.drop off).take len).drop i).length = len + len2 := by
            simp only [List.length_append, List.length_take, List.length_drop]; omega
          have hgrow : ∀ (w' : World) (cap : Nat) (mid post : List Value) (et : Nat), Below w.heap.size w w' → w'.heap[w.heap.size]? = some (.cells (mid ++ post).toArray et (0, 0)) →
              Reps ty (M_ X μ H w) (((ds.drop off).take len).take i ++ (ds2.drop off2).take len2 ++ ((ds.drop off).take len).drop i) (List.replicate (len + len2) (ty e1)) mid → len + len2 ≤ cap ∧ cap ≤ maxInt → cap - (len + len2) ≤ post.length →
              ∃ y μ', Ending.returned (.slice (some ⟨w.heap.size, 0, none⟩) (len + len2) cap) = Ending.returned y ∧ HOk ty P.cellsOf X B0 w0 μ' (H.set b .dead ++ [.row e1 true true (((ds.drop off).take len).take i ++ (ds2.drop off2).take len2 ++ ((ds.drop off).take len).drop i)]) w' ∧
                RR ty P.cellsOf (M_ X μ' (H.set b .dead ++ [.row e1 true true (((ds.drop off).take len).take i ++ (ds2.drop off2).take len2 ++ ((ds.drop off).take len).drop i)]) w') μ' (.sref H.length 0 (len + len2)) y ∧
                Fut X B0 μ.length μ H w μ' (H.set b .dead ++ [.row e1 true true (((ds.drop off).take len).take i ++ (ds2.drop off2).take len2 ++ ((ds.drop off).take len).drop i)]) w' := by
            intro w' cap mid post et hb hblk hreps hcap hpost
            obtain ⟨g1, g2, g3⟩ := newRow_adopt hd1 hb (blk := w.heap.size) (e := e1) (cap := cap) (et := et) (fz := (0, 0)) (cs := (mid ++ post).toArray) (ds := ((ds.drop off).take len).take i ++ (ds2.drop off2).take len2 ++ ((ds.drop off).take len).drop i) (mid := mid) (post := post)
              (Nat.le_refl _) hblk hne rfl (fun M' hM => by rw [hnew]; exact Reps.mono _ (Mem.le_trans hd2.mem hM) _ _ _ hreps) (by rw [hnew]; exact hcap) (by rw [hnew, hone]; omega) (by simp)
            rw [hnew] at g1 g2 g3
            rw [hdl] at g3
            exact ⟨_, _, rfl, g1, g3, ⟨g2.loc, g2.len, Mem.le_trans hd2.mem g2.mem, g2.below⟩⟩
          have hempty : ∀ (base : Option Addr), len = 0 → Calls P (ρ.f 22) #[.slice base 0 0, .int .i64 (0 : Nat), .slice (some ⟨l2.blk, l2.base + off2 * P.cellsOf e1, none⟩) len2 c2] w fun e w' => ∃ y μ', e = .returned y ∧ HOk ty P.cellsOf X B0 w0 μ' (H.set b .dead ++ [.row e1 true true (((ds.drop off).take len).take i ++ (ds2.drop off2).take len2 ++ ((ds.drop off).take len).drop i)]) w' ∧
                RR ty P.cellsOf (M_ X μ' (H.set b .dead ++ [.row e1 true true (((ds.drop off).take len).take i ++ (ds2.drop off2).take len2 ++ ((ds.drop off).take len).drop i)]) w') μ' (.sref H.length 0 (len + len2)) y ∧
                Fut X B0 μ.length μ H w μ' (H.set b .dead ++ [.row e1 true true (((ds.drop off).take len).take i ++ (ds2.drop off2).take len2 ++ ((ds.drop off).take len).drop i)]) w' := by
            intro base hl0
            subst hl0
            obtain rfl : i = 0 := by omega
            refine (Any2.slices_Insert_string_end_grow L base 0 0 l2.blk (l2.base + off2 * P.cellsOf e1) len2 c2 [] vs w hpos (Nat.le_refl _) (by omega) (by omega) rfl l2b (fun _ => rfl) (fun _ _ j v hj => by simp at hj) (hvcell w rfl) hvsc).mono ?_
            rintro e w' ⟨rfl, rfl⟩
            have hcap := cap_ge (0 + len2) 0 (ρ.t 9) (w.tape w.drawn (.appendCap (0 + len2) 0 (ρ.t 9)))
            have hcapm := cap_le (0 + len2) 0 (ρ.t 9) (w.tape w.drawn (.appendCap (0 + len2) 0 (ρ.t 9))) (by unfold maxLen; omega)
            refine hgrow _ _ vs (Builtin.zeroCells (Value.string ⟨#[]⟩).cells (grownCap w (0 + len2) 0 (ρ.t 9) - (0 + len2))).toList (ρ.t 9) (below_da _ _) ?_ ?_ ⟨hcap, hcapm⟩ (by simp [Builtin.zeroCells, Value.cells])
            · rw [heap_da]; simp
            · simpa using hvs
          rcases hs with ⟨hvirt, hl0, a, rfl, ha⟩ | ⟨hvirt, c, rfl, hc, hoc, hreach⟩ | ⟨hvirt, hl0, hreach, ad, rfl⟩
          · obtain rfl : i = 0 := by omega
            exact hempty a hl0
          · have hob := hobj
            simp only [ObjOk] at hob
            obtain ⟨_, hlnn, _, hob⟩ := hob
            rw [if_neg (by simp [hvirt])] at hob
            obtain ⟨hnn, hcap, cs, et, fz, pre, mid, post, hb1, hcs, hpre, hrep, hpost, hfz⟩ := hob
            obtain ⟨q1, os, q2, e1a, l1a, l1b, hos, _, hq2⟩ := Reps.drop_take T.szOk hne hrep hlen
            have hq2l : q2.length = ds.length - (off + len) := by
              have := (Reps.size T.szOk _ _ _ hq2).2 (List.replicate (ds.length - (off + len)) e1) (by simp)
              simpa [hone] using this
            have hpl : l.cap - ds.length ≤ post.length := by rw [hone] at hpost; omega
            rw [hone] at l1a l1b
            simp only [Nat.mul_one] at l1a l1b
            have hosc : ∀ v ∈ os, v.oneCell' = true := fun v hv => oneCell_of_scal (Reps.scal _ _ _ _ hos v hv)
            have hblk : w.heap[l.blk]? = some (.cells ((pre ++ q1) ++ os ++ (q2 ++ post)).toArray et fz) := by
              rw [hb1]; congr 2; apply Array.toList_inj.1; rw [hcs, e1a]; simp
            have hcell : ∀ (w' : World), w'.heap[l.blk]? = w.heap[l.blk]? → ∀ (j : Nat) (v : Value), os[j]? = some v → w'.cell? ⟨l.blk, l.base + off * P.cellsOf e1 + j, none⟩ = some v := by
              intro w' hw' j v hj
              rw [cell_congr hw']
              have := block_cells hblk (c1 := pre ++ q1) (y := os) (c2 := q2 ++ post) (by simp) j v hj
              simpa [hpre, l1a, hone, Nat.add_assoc] using this
            have hp0 : (pre ++ q1).length = l.base + off * P.cellsOf e1 := by simp [hpre, l1a, hone]
            have hroomlen : c - len ≤ (q2 ++ post).length := by rw [List.length_append, hq2l]; omega
            have hcsz : cs.size = ((pre ++ q1) ++ os ++ (q2 ++ post)).length := by
              have h1 : cs.size = cs.toList.length := by simp
              rw [h1, hcs, e1a]; simp
            have hcf : ∀ j, j < c → (w.cell? ⟨l.blk, l.base + off * P.cellsOf e1 + j, none⟩).isSome = true ∧ w.frozen? ⟨l.blk, l.base + off * P.cellsOf e1 + j, none⟩ = false := by
              intro j hj
              have hlt : l.base + off * P.cellsOf e1 + j < ((pre ++ q1) ++ os ++ (q2 ++ post)).length := by
                rw [List.length_append, List.length_append, hp0, l1b]; omega
              constructor
              · rw [cell_of_block hblk]; simp only [List.getElem?_toArray]; rw [List.getElem?_eq_getElem hlt]; rfl
              · rw [frozen_of_block hblk]
                have := hfz (l.base + off * P.cellsOf e1 + j) (by rw [hcsz]; exact Nat.lt_add_right _ hlt)
                simp at this ⊢; omega
            have hnb : l2.blk ≠ l.blk := by
              intro hEq
              have h1 : Own μ H b l.blk := ⟨l, _, hμ, hH, by simp [ownB, hvirt]⟩
              have h2 : Uses μ H b2 l.blk := ⟨l2, _, hμ2, hH2, by simp [usesB, hvirt2, hEq]⟩
              exact hbb (h.inj _ _ _ h1 h2)
            have hreps : Reps ty (M_ X μ H w) (((ds.drop off).take len).take i ++ (ds2.drop off2).take len2 ++ ((ds.drop off).take len).drop i) (List.replicate (len + len2) (ty e1)) (os.take i ++ vs ++ os.drop i) := by
              have hos' : Reps ty (M_ X μ H w) ((ds.drop off).take len) (List.replicate ((ds.drop off).take len).length (ty e1)) os := by rw [hdlen]; exact hos
              obtain ⟨r1, r2, r3, er, lr1, lr2, hr2, hr1, hr3⟩ := Reps.drop_take T.szOk hne hos' (i := i) (n := 0) (by rw [hdlen]; omega)
              rw [hone] at lr1 lr2
              have hr20 : r2 = [] := List.eq_nil_of_length_eq_zero (by simpa using lr2)
              subst hr20
              have ht : os.take i = r1 := by rw [er, List.append_nil]; exact List.take_left' (by simpa using lr1)
              have hd : os.drop i = r3 := by rw [er, List.append_nil]; exact List.drop_left' (by simpa using lr1)
              rw [ht, hd]
              rw [hdlen] at hr3
              have ek : List.replicate (len + len2) (ty e1) = List.replicate i (ty e1) ++ List.replicate len2 (ty e1) ++ List.replicate (len - (i + 0)) (ty e1) := by
                rw [List.replicate_append_replicate, List.replicate_append_replicate]; congr 1; omega
              rw [ek]
              exact (hr1.append hvs).append (by simpa using hr3)
            have hin : ∀ (w' : World) (post' : List Value), len + len2 ≤ c → (∃ k, w' = putBlk { w with drawn := k } l.blk (.cells ((pre ++ q1) ++ (os.take i ++ vs ++ os.drop i) ++ post').toArray et fz)) → c - (len + len2) ≤ post'.length → ((pre ++ q1) ++ (os.take i ++ vs ++ os.drop i) ++ post').length = cs.size →
                ∃ y μ', Ending.returned (.slice (some ⟨l.blk, l.base + off * P.cellsOf e1, none⟩) (len + len2) c) = Ending.returned y ∧ HOk ty P.cellsOf X B0 w0 μ' (H.set b .dead ++ [.row e1 true true (((ds.drop off).take len).take i ++ (ds2.drop off2).take len2 ++ ((ds.drop off).take len).drop i)]) w' ∧
                RR ty P.cellsOf (M_ X μ' (H.set b .dead ++ [.row e1 true true (((ds.drop off).take len).take i ++ (ds2.drop off2).take len2 ++ ((ds.drop off).take len).drop i)]) w') μ' (.sref H.length 0 (len + len2)) y ∧
                Fut X B0 μ.length μ H w μ' (H.set b .dead ++ [.row e1 true true (((ds.drop off).take len).take i ++ (ds2.drop off2).take len2 ++ ((ds.drop off).take len).drop i)]) w' := by
              intro w' post' hroom hw' hpost' hsz
              obtain ⟨k, rfl⟩ := hw'
              have hbel : Below w.heap.size w { w with drawn := k } := ⟨rfl, rfl, rfl, Nat.le_refl _, fun _ _ => rfl⟩
              obtain ⟨f1, f2⟩ := h.grow hbel
              obtain ⟨g1, g2⟩ := HOk.killPut f1 (l' := ⟨l.blk, l.base + off * P.cellsOf e1, c, .array (len + len2) e1, false, true⟩) (o' := .row e1 true true (((ds.drop off).take len).take i ++ (ds2.drop off2).take len2 ++ ((ds.drop off).take len).drop i))
                (obj := .cells ((pre ++ q1) ++ (os.take i ++ vs ++ os.drop i) ++ post').toArray et fz) hμ hH (by simp [ownB, hvirt]) (by simp [ownB]) (fun M' hM => by
                  simp only [ObjOk]
                  refine ⟨by rw [hnew], trivial, hne, ?_⟩
                  rw [if_neg (by simp)]
                  refine ⟨trivial, by rw [hnew]; omega, ((pre ++ q1) ++ (os.take i ++ vs ++ os.drop i) ++ post').toArray, et, fz, pre ++ q1, os.take i ++ vs ++ os.drop i, post', ?_, by simp, hp0, ?_, ?_, ?_⟩
                  · rw [putBlk_heap, if_pos ⟨rfl, lt_of_block hb1⟩]
                  · rw [hnew]; exact Reps.mono _ (Mem.le_trans f2.mem hM) _ _ _ hreps
                  · rw [hnew, hone]; simpa using hpost'
                  · intro o ho
                    exact hfz o (by rw [← hsz]; simpa using ho))
              refine ⟨_, _, rfl, g1, .inr ⟨.slice e1, ?_⟩, Fut.trans (Nat.le_refl _) f2 g2⟩
              simp only [RV]
              refine ⟨⟨l.blk, l.base + off * P.cellsOf e1, c, .array (len + len2) e1, false, true⟩, len + len2, e1, ?_, rfl, rfl, by omega, .inr (.inl ⟨rfl, c, by simp, hroom, by simp, by simpa using hroom⟩)⟩
              rw [← h.len]; simp
            by_cases hend : i = len
            · subst hend
              have htk : os.take i = os := List.take_of_length_le (by omega)
              have hdk : os.drop i = [] := List.drop_of_length_le (by omega)
              by_cases hroom : i + len2 ≤ c
              · have hseg : ((q2 ++ post).take len2).length = vs.length := by rw [List.length_take, l2b]; omega
                have hput := fun (w1 : World) (hw1 : w1.heap[l.blk]? = w.heap[l.blk]?) => setCells_put (b := l.blk) vs (l.base + off * P.cellsOf e1 + i) ((pre ++ q1) ++ os) ((q2 ++ post).take len2) ((q2 ++ post).drop len2) w1 (by rw [hw1, hblk, List.append_assoc ((pre ++ q1) ++ os), List.take_append_drop]) hseg (by rw [List.length_append, hp0, l1b])
                refine (Any2.slices_Insert_string_end_room L l.blk (l.base + off * P.cellsOf e1) i c l2.blk (l2.base + off2 * P.cellsOf e1) len2 c2 vs w hpos hroom (by
                  unfold maxInt at hcap; omega) l2b (fun j hj => by rw [Nat.add_assoc]; exact (hcf (i + j) (by omega)).1) (fun j hj => by rw [Nat.add_assoc]; exact (hcf (i + j) (by omega)).2) (hvcell w rfl) hvsc).mono ?_
                rintro e w' ⟨rfl, rfl⟩
                refine hin _ ((q2 ++ post).drop len2) hroom ⟨w.drawn, ?_⟩ (by rw [List.length_drop]; omega) ?_
                · rw [hput w rfl]
                  rw [htk, hdk]
                  simp
                · rw [hcsz, htk, hdk]
                  simp only [List.length_append, List.length_drop, List.length_nil, l2b] at hroomlen ⊢; omega
              · refine (Any2.slices_Insert_string_end_grow L (some ⟨l.blk, l.base + off * P.cellsOf e1, none⟩) i c l2.blk (l2.base + off2 * P.cellsOf e1) len2 c2 os vs w hpos hc (by omega) (by omega) l1b l2b (fun h0 => by simp at h0)
                  (fun ad had j v hj => by simp only [Option.some.injEq] at had; subst had; rw [addr_add rfl]; exact hcell w rfl j v hj) (hvcell w rfl) hvsc).mono ?_
                rintro e w' ⟨rfl, rfl⟩
                have hcap := cap_ge (i + len2) c (ρ.t 9) (w.tape w.drawn (.appendCap (i + len2) c (ρ.t 9)))
                have hcapm := cap_le (i + len2) c (ρ.t 9) (w.tape w.drawn (.appendCap (i + len2) c (ρ.t 9))) (by unfold maxLen; omega)
                refine hgrow _ _ (os.take i ++ vs ++ os.drop i) (Builtin.zeroCells (Value.string ⟨#[]⟩).cells (grownCap w (i + len2) c (ρ.t 9) - (i + len2))).toList (ρ.t 9) (below_da _ _) ?_ hreps ⟨hcap, hcapm⟩ (by simp [Builtin.zeroCells, Value.cells])
                rw [heap_da, htk, hdk]
                simp
            · have hilt : i < len := by omega
              by_cases hroom : len + len2 ≤ c
              · refine (Any2.slices_Insert_string_shift L l.blk (l.base + off * P.cellsOf e1) len c i l2.blk (l2.base + off2 * P.cellsOf e1) len2 c2 os vs w hilt hpos hroom (by unfold maxInt at hcap; omega) hnb l1b l2b
                  (hcell w rfl) (fun j hj => (hcf j (by omega)).1) (fun j hj => (hcf j (by omega)).2) (hvcell w rfl) hosc hvsc et2 et cs2.size cs.size (by simp [World.shape?, hb2]) (by simp [World.shape?, hb1]) (by rw [hcsz]; simp only [List.length_append, l1b]; omega) ?_ ?_).mono ?_
                · rw [frozen_of_block hb2]
                  have := hfz2 (l2.base + off2 * P.cellsOf e1) (by
                    have h1 : cs2.size = cs2.toList.length := by simp
                    rw [h1, hcs2, e2a, hone]; simp only [List.length_append, hpre2, l2a, l2b]; omega)
                  simp at this ⊢; omega
                · rw [frozen_of_block hb2]
                  have := hfz2 cs2.size (by rw [he]; simp [slk])
                  simp at this ⊢; omega
                rintro e w' ⟨rfl, rfl⟩
                have hT : (os.drop i ++ (q2 ++ post)).length = (len - i) + (q2 ++ post).length := by rw [List.length_append, List.length_drop, l1b]
                have hput1 := setCells_put (b := l.blk) (os.drop i) (l.base + off * P.cellsOf e1 + (i + len2)) ((pre ++ q1) ++ os.take i ++ (os.drop i ++ (q2 ++ post)).take len2) (((os.drop i ++ (q2 ++ post)).drop len2).take (len - i)) ((os.drop i ++ (q2 ++ post)).drop (len2 + (len - i))) w.drew
                  (et := et) (fz := fz) (by
                    show w.heap[l.blk]? = _
                    rw [hblk]; congr 2; apply Array.toList_inj.1
                    show (pre ++ q1) ++ os ++ (q2 ++ post) = (pre ++ q1) ++ os.take i ++ (os.drop i ++ (q2 ++ post)).take len2 ++ ((os.drop i ++ (q2 ++ post)).drop len2).take (len - i) ++ (os.drop i ++ (q2 ++ post)).drop (len2 + (len - i))
                    rw [← List.drop_drop, List.append_assoc _ (((os.drop i ++ (q2 ++ post)).drop len2).take (len - i)), List.take_append_drop, List.append_assoc _ ((os.drop i ++ (q2 ++ post)).take len2), List.take_append_drop, List.append_assoc (pre ++ q1), List.append_assoc (pre ++ q1), ← List.append_assoc (os.take i), List.take_append_drop])
                  (by rw [List.length_take, List.length_drop, List.length_drop, hT, l1b]; omega) (by rw [List.length_append, List.length_append, hp0, List.length_take, List.length_take, hT, l1b]; omega)
                rw [hput1]
                have hput2 := setCells_put (b := l.blk) vs (l.base + off * P.cellsOf e1 + i) ((pre ++ q1) ++ os.take i) ((os.drop i ++ (q2 ++ post)).take len2) (os.drop i ++ (os.drop i ++ (q2 ++ post)).drop (len2 + (len - i))) (putBlk w.drew l.blk (.cells ((pre ++ q1) ++ os.take i ++ (os.drop i ++ (q2 ++ post)).take len2 ++ os.drop i ++ (os.drop i ++ (q2 ++ post)).drop (len2 + (len - i))).toArray et fz))
                  (et := et) (fz := fz) (by rw [putBlk_heap, if_pos ⟨rfl, lt_of_block (w := w.drew) hb1⟩]; simp) (by rw [List.length_take, hT, l2b]; omega) (by rw [List.length_append, hp0, List.length_take, l1b]; omega)
                rw [hput2]
                refine hin _ ((os.drop i ++ (q2 ++ post)).drop (len2 + (len - i))) hroom ⟨w.drawn + 1, ?_⟩ (by rw [List.length_drop, hT]; omega) ?_
                · show putBlk (putBlk w.drew _ _) _ _ = putBlk w.drew _ _
                  simp [putBlk]
                · rw [hcsz]; simp only [List.length_append, List.length_drop, List.length_take, l1b, l2b] at hT hroomlen ⊢; omega
              · refine (Any2.slices_Insert_string_grow L l.blk (l.base + off * P.cellsOf e1) len c i l2.blk (l2.base + off2 * P.cellsOf e1) len2 c2 os vs w hilt hpos hc (by omega) (by omega) l1b l2b (hcell w rfl) (hvcell w rfl) hosc hvsc).mono ?_
                rintro e w' ⟨rfl, rfl⟩
                have hcap := cap_ge (len + len2) c (ρ.t 9) (w.tape w.drawn (.appendCap (len + len2) c (ρ.t 9)))
                have hcapm := cap_le (len + len2) c (ρ.t 9) (w.tape w.drawn (.appendCap (len + len2) c (ρ.t 9))) (by unfold maxLen; omega)
                have hdr : ∀ (w1 : World) (cs : Array Value) (t : Nat), (w1.alloc (.cells cs t)).drew.heap[w1.heap.size]? = some (.cells cs t (0, 0)) := by
                  intro w1 cs t; show (w1.heap.push _)[w1.heap.size]? = _; simp
                have hz : ∀ n, (Builtin.zeroCells (Value.string ⟨#[]⟩).cells n).toList.length = n := by intro n; simp [Builtin.zeroCells, Value.cells]
                generalize hZ1 : Builtin.zeroCells (Value.string ⟨#[]⟩).cells (len + len2 - i) = Z1
                generalize hZ2 : Builtin.zeroCells (Value.string ⟨#[]⟩).cells (grownCap w (len + len2) c (ρ.t 9) - (len + len2)) = Z2
                have hz1 : Z1.toList.length = len + len2 - i := by rw [← hZ1]; exact hz _
                have hz2 : Z2.toList.length = grownCap w (len + len2) c (ρ.t 9) - (len + len2) := by rw [← hZ2]; exact hz _
                have hput1 := setCells_put (b := w.heap.size) vs i (os.take i) (Z1.toList.take len2) (Z1.toList.drop len2 ++ Z2.toList) (w.alloc (.cells ((os.take i).toArray ++ Z1 ++ Z2) (ρ.t 9))).drew
                  (et := ρ.t 9) (fz := (0, 0)) (by rw [hdr]; congr 2; apply Array.toList_inj.1; simp only [Array.toList_append, List.append_assoc]; rw [← List.append_assoc (Z1.toList.take len2), List.take_append_drop])
                  (by rw [List.length_take, hz1, l2b]; omega) (by rw [List.length_take, l1b]; omega)
                rw [hput1]
                have hput2 := setCells_put (b := w.heap.size) (os.drop i) (i + len2) (os.take i ++ vs) (Z1.toList.drop len2) Z2.toList (putBlk (w.alloc (.cells ((os.take i).toArray ++ Z1 ++ Z2) (ρ.t 9))).drew w.heap.size (.cells (os.take i ++ vs ++ (Z1.toList.drop len2 ++ Z2.toList)).toArray (ρ.t 9) (0, 0))).drew
                  (et := ρ.t 9) (fz := (0, 0)) (by show (putBlk _ _ _).heap[_]? = _; rw [putBlk_heap, if_pos ⟨rfl, lt_of_block (hdr _ _ _)⟩]; simp)
                  (by rw [List.length_drop, List.length_drop, hz1, l1b]; omega) (by rw [List.length_append, List.length_take, l1b, l2b]; omega)
                rw [hput2]
                refine hgrow _ _ (os.take i ++ vs ++ os.drop i) Z2.toList (ρ.t 9) ?_ ?_ hreps ⟨hcap, hcapm⟩ (by rw [hz2]; exact Nat.le_refl _)
                · refine ⟨rfl, rfl, rfl, ?_, fun k hk => ?_⟩
                  · show w.heap.size ≤ (((w.heap.push _).setIfInBounds _ _).setIfInBounds _ _).size
                    simp
                  · show (((w.heap.push _).setIfInBounds _ _).setIfInBounds _ _)[k]? = _
                    simp only [Array.getElem?_setIfInBounds, Array.getElem?_push]
                    rw [if_neg (by omega), if_neg (by omega), if_neg (by omega)]
                · rw [putBlk_heap, if_pos ⟨rfl, lt_of_block (w := (putBlk _ _ _).drew) (by show (putBlk _ _ _).heap[_]? = _; rw [putBlk_heap, if_pos ⟨rfl, lt_of_block (hdr _ _ _)⟩])⟩]
          · obtain rfl : i = 0 := by omega
            exact hempty (some ad) hl0
        · simp at hrun
      · rename_i e1
        replace hs := hs.resolve_left (by simp)
        obtain ⟨_, hs⟩ := hs
        simp only [RV] at hs
        obtain ⟨rfl, hs⟩ := hs
        simp only [Rep] at hs
        obtain ⟨_, ad, cap0, _, rfl, _, hnn, hnil, _⟩ := hs
        have had : ad = none := by cases ad with | none => rfl | some _ => simp at hnn
        subst had
        obtain rfl := hnil rfl
        simp only [Option.some.injEq, Prod.mk.injEq, Bool.and_eq_true, decide_eq_true_eq] at hrun
        obtain ⟨⟨_, ⟨rfl, hx0⟩, hmax⟩, hrun⟩ := hrun
        obtain ⟨rfl, rfl⟩ := hrun
        unfold maxLen at hmax
        rw [hx0] at hiv
        subst hiv
        refine (Any2.slices_Insert_string_end_grow L none 0 0 l2.blk (l2.base + off2 * P.cellsOf e1) len2 c2 [] vs w hpos (Nat.le_refl _) (by omega) (by omega) rfl l2b (fun _ => rfl) (fun _ _ j v hj => by simp at hj) (hvcell w rfl) hvsc).mono ?_
        rintro e w' ⟨rfl, rfl⟩
        have hcap := cap_ge (0 + len2) 0 (ρ.t 9) (w.tape w.drawn (.appendCap (0 + len2) 0 (ρ.t 9)))
        have hcapm := cap_le (0 + len2) 0 (ρ.t 9) (w.tape w.drawn (.appendCap (0 + len2) 0 (ρ.t 9))) (by unfold maxLen; omega)
        have hvl : ((ds2.drop off2).take len2).length = len2 := by simp; omega
        obtain ⟨g1, g2, g3⟩ := newRow_adopt h (w' := w.drew.alloc (.cells (([] ++ vs).toArray ++ Builtin.zeroCells (Value.string ⟨#[]⟩).cells (grownCap w (0 + len2) 0 (ρ.t 9) - (0 + len2))) (ρ.t 9))) (below_da _ _) (blk := w.heap.size) (e := e1) (cap := grownCap w (0 + len2) 0 (ρ.t 9)) (et := ρ.t 9) (fz := (0, 0))
          (cs := ([] ++ vs).toArray ++ Builtin.zeroCells (Value.string ⟨#[]⟩).cells (grownCap w (0 + len2) 0 (ρ.t 9) - (0 + len2))) (ds := (ds2.drop off2).take len2) (mid := vs) (post := (Builtin.zeroCells (Value.string ⟨#[]⟩).cells (grownCap w (0 + len2) 0 (ρ.t 9) - (0 + len2))).toList)
          (Nat.le_refl _) (heap_da _ _) hne (by simp) (fun M' hM => by rw [hvl]; exact Reps.mono _ hM _ _ _ hvs) (by rw [hvl]; rw [Nat.zero_add] at hcap hcapm ⊢; exact ⟨hcap, hcapm⟩) (by rw [hvl, hone]; simp [Builtin.zeroCells, Value.cells]) (by simp)
        rw [hvl] at g1 g2 g3
        rw [Nat.zero_add] at g1 g2 g3 ⊢
        exact ⟨_, _, rfl, g1, g3, g2⟩
      · simp at hrun
    · simp at hrun
  · simp at hrun
end
end Go.AM
namespace Go.AM
open Go Go.RowKit
def cutCells (sz : Nat → Nat) (κ : K) (cs : List Value) : Option (Value × List Value) :=
  if κ.isAgg then (if ksz sz κ ≤ cs.length then some (.agg (cs.take (ksz sz κ)).toArray, cs.drop (ksz sz κ)) else none)
  else match cs with | v :: cs => (match v with | .agg _ => none | _ => some (v, cs)) | [] => none
mutual
def zrep (ty : Nat → K) (sz : Nat → Nat) : D → K → Value → Bool
  | .bool b, .bool, .bool b' => b == b'
  | .int k n, .int k', .int k'' n' => decide (k = k') && decide (k = k'') && n == n'
  | .str s, .str, .string s' => s.data.toList == s'.data.toList
  | .agg ds, κ, .agg cs => κ.isAgg && zreps ty sz ds (κ.kids ty) cs.toList
  | .slice false [], .slice _, .slice none 0 0 => true
  | .nilIface, .iface _, .nilIface => true
  | .nilFunc, .func, .nilFunc => true
  | .nilPtr, .ptr _, .pointer none => true
  | .nilMap, .map _ _, .map none => true
  | _, _, _ => false
def zreps (ty : Nat → K) (sz : Nat → Nat) : List D → List K → List Value → Bool
  | [], [], [] => true
  | d :: ds, κ :: κs, cs => match cutCells sz κ cs with
    | some (x, rest) => zrep ty sz d κ x && zreps ty sz ds κs rest
    | none => false
  | _, _, _ => false
end
section
variable {ty : Nat → K} {sz : Nat → Nat}
mutual
theorem zrep_ok {M : Mem} : ∀ (d : D) (κ : K) (v : Value), zrep ty sz d κ v = true → Rep ty M d κ v
  | .bool b, κ, v, h => by
    cases κ <;> cases v <;> simp [zrep] at h
    subst h; simp [Rep]
  | .int k n, κ, v, h => by
    cases κ <;> cases v <;> simp [zrep] at h
    obtain ⟨⟨rfl, rfl⟩, rfl⟩ := h; simp [Rep]
  | .str s, κ, v, h => by
    cases κ <;> cases v <;> simp [zrep] at h
    rename_i s'
    have : s = s' := by cases s; cases s'; congr
    subst this; simp [Rep]
  | .agg ds, κ, v, h => by
    cases v <;> simp [zrep] at h
    rename_i cs
    simp only [Rep]
    exact ⟨h.1, cs, rfl, zreps_ok ds _ _ h.2⟩
  | .slice nn ds, κ, v, h => by
    unfold zrep at h
    split at h <;> simp at *
    rename_i h1
    obtain ⟨rfl, rfl⟩ := h1
    simp only [Rep]
    exact ⟨_, none, 0, rfl, rfl, Nat.le_refl _, rfl, fun _ => rfl, .inl trivial⟩
  | .iface t x, κ, v, h => by cases κ <;> cases v <;> simp [zrep] at h
  | .nilIface, κ, v, h => by cases κ <;> cases v <;> simp [zrep] at h; simp [Rep]
  | .fn f, κ, v, h => by cases κ <;> cases v <;> simp [zrep] at h
  | .nilFunc, κ, v, h => by cases κ <;> cases v <;> simp [zrep] at h; simp [Rep]
  | .nilPtr, κ, v, h => by
    unfold zrep at h
    split at h <;> simp at *
    simp [Rep]
  | .nilMap, κ, v, h => by
    unfold zrep at h
    split at h <;> simp at *
    simp [Rep]
  | .tup ds, κ, v, h => by cases κ <;> cases v <;> simp [zrep] at h
theorem zreps_ok {M : Mem} : ∀ (ds : List D) (κs : List K) (cs : List Value), zreps ty sz ds κs cs = true → Reps ty M ds κs cs
  | [], κs, cs, h => by
    cases κs <;> cases cs <;> simp [zreps] at h
    simp [Reps]
  | d :: ds, κs, cs, h => by
    cases κs with
    | nil => simp [zreps] at h
    | cons κ κs =>
      simp only [zreps] at h
      split at h
      · rename_i x rest hc
        simp only [Bool.and_eq_true] at h
        simp only [Reps]
        refine ⟨κ, κs, x, rest, rfl, ?_, zrep_ok d κ x h.1, zreps_ok ds κs rest h.2⟩
        unfold cutCells at hc
        split at hc
        · split at hc
          · simp only [Option.some.injEq, Prod.mk.injEq] at hc
            obtain ⟨rfl, rfl⟩ := hc
            simp [cells_agg]
          · simp at hc
        · split at hc
          · rename_i v cs'
            split at hc
            · simp at hc
            · rename_i hna
              simp only [Option.some.injEq, Prod.mk.injEq] at hc
              obtain ⟨rfl, rfl⟩ := hc
              cases v <;> first | (exact absurd rfl (hna _)) | simp [Value.cells]
          · simp at hc
      · simp at h
end
end
def fieldsB (P : Program) (ty : Nat → K) (sz : Nat → Nat) (κ : K) : List Field → List Nat → Nat → Bool
  | [], [], _ => true
  | f :: fields, t :: fs, j => f.type == t && f.offset == kOff sz κ j && decide (0 < sz f.type) && f.name != "_" && (ty f.type).ok && fieldsB P ty sz κ fields fs (j + 1)
  | _, _, _ => false
def descB (P : Program) (ty : Nat → K) (t : Nat) (κ : K) : Bool :=
  match κ, P.underlying t with
  | .bool, some .bool => true
  | .int k, some (.int k') => decide (k = k')
  | .str, some .string => true
  | .struct fs, some (.struct fields) => fieldsB P ty P.cellsOf (.struct fs) fields.toList fs 0
  | .array n e, some (.array n' e') => n == n' && e == e' && decide (0 < P.cellsOf e) && (ty e).ok
  | .slice e, some (.slice e') => e == e' && (ty e).ok
  | .map a e, some (.map a' e') => a == a' && e == e' && (ty a).ok && (ty e).ok
  | .iface m, some (.interface ms) => ms.isEmpty == !m
  | .ptr e, some (.pointer e') => e == e'
  | .func, some (.func _ _ _) => true
  | _, _ => false
def tyB (P : Program) (ty : Nat → K) (t : Nat) : Bool :=
  match ty t with
  | .bad => true
  | κ => match P.info? t with
    | none => false
    | some i => i.size == ksz P.cellsOf κ && decide (i.bytes ≤ 4096) && decide (i.size ≤ 4096) && (match i.zero with | some z => zrep ty P.cellsOf (zero ty κ) κ z | none => false) &&
      (!K.cmp ty 20 κ || (i.comparable && !P.eqGuardType P.depth t && !P.stoodInHeld t)) && descB P ty t κ
theorem ok_ne {κ : K} (h : κ.ok = true) : κ ≠ .bad := by rintro rfl; simp [K.ok] at h
theorem fieldsB_ok {P : Program} {ty : Nat → K} {sz : Nat → Nat} {κ : K} : ∀ (fields : List Field) (fs : List Nat) (j : Nat), fieldsB P ty sz κ fields fs j = true →
    fields.map (·.type) = fs ∧ ∀ (i : Nat) (f : Field), fields[i]? = some f → f.offset = kOff sz κ (j + i) ∧ 0 < sz f.type ∧ f.name ≠ "_" ∧ ty f.type ≠ .bad
  | [], [], j, _ => ⟨rfl, by simp⟩
  | [], _ :: _, j, h => by simp [fieldsB] at h
  | _ :: _, [], j, h => by simp [fieldsB] at h
  | f :: fields, t :: fs, j, h => by
    simp only [fieldsB, Bool.and_eq_true, beq_iff_eq, decide_eq_true_eq, bne_iff_ne] at h
    obtain ⟨⟨⟨⟨⟨h1, h2⟩, h3⟩, h4⟩, h5⟩, h6⟩ := h
    obtain ⟨k1, k2⟩ := fieldsB_ok fields fs (j + 1) h6
    refine ⟨by simp [h1, k1], fun i f' hi => ?_⟩
    cases i with
    | zero => simp at hi; subst hi; exact ⟨h2, h3, h4, ok_ne h5⟩
    | succ i =>
      obtain ⟨a, b⟩ := k2 i f' (by simpa using hi)
      exact ⟨by rw [a]; congr 1; omega, b⟩
theorem tyB_ok {P : Program} {ty : Nat → K} {t : Nat} (h : tyB P ty t = true) (hb : ty t ≠ .bad) : ∃ i, TyFact P ty t i := by
  unfold tyB at h
  split at h
  · rename_i hk; exact absurd hk hb
  · split at h
    · simp at h
    · rename_i i hi
      simp only [Bool.and_eq_true, beq_iff_eq, decide_eq_true_eq, Bool.or_eq_true, Bool.not_eq_true'] at h
      obtain ⟨⟨⟨⟨⟨h1, h2⟩, h3⟩, h4⟩, h5⟩, h6⟩ := h
      refine ⟨i, hi, h1, h2, h3, ?_, ?_, ?_⟩
      · cases hz : i.zero with
        | none => rw [hz] at h4; simp at h4
        | some z => rw [hz] at h4; exact ⟨z, rfl, fun M => zrep_ok _ _ _ h4⟩
      · intro hc
        rcases h5 with h5 | h5
        · rw [hc] at h5; simp at h5
        · exact ⟨h5.1.1, h5.1.2, h5.2⟩
      · unfold descB at h6
        split at h6
        case h_11 => simp at h6
        all_goals (rename_i hk hu; rw [hk]; simp only [descOk])
        · exact hu
        · simp only [decide_eq_true_eq] at h6; subst h6; exact hu
        · exact hu
        · obtain ⟨k1, k2⟩ := fieldsB_ok _ _ _ h6
          exact ⟨_, hu, k1, fun j f hj => by have := k2 j f (by simpa using hj); simpa using this⟩
        · simp only [Bool.and_eq_true, beq_iff_eq, decide_eq_true_eq] at h6
          obtain ⟨⟨⟨rfl, rfl⟩, h7⟩, h8⟩ := h6
          exact ⟨hu, h7, ok_ne h8⟩
        · simp only [Bool.and_eq_true, beq_iff_eq] at h6
          obtain ⟨rfl, h8⟩ := h6
          exact ⟨hu, ok_ne h8⟩
        · simp only [Bool.and_eq_true, beq_iff_eq] at h6
          obtain ⟨⟨⟨rfl, rfl⟩, h7⟩, h8⟩ := h6
          exact ⟨hu, ok_ne h7, ok_ne h8⟩
        · exact ⟨_, hu, by simpa using h6⟩
        · simp only [beq_iff_eq] at h6; subst h6; exact hu
        · exact ⟨_, _, _, hu⟩
theorem tyOk_of {P : Program} {tys : List K} (h : (List.range tys.length).all (tyB P fun t => tys.getD t .bad) = true) : TyOk P fun t => tys.getD t .bad := by
  intro t ht
  refine tyB_ok ?_ ht
  have hlt : t < tys.length := by
    rcases Nat.lt_or_ge t tys.length with h | h
    · exact h
    · simp [List.getD_eq_getElem?_getD, List.getElem?_eq_none h] at ht
  exact List.all_eq_true.1 h t (List.mem_range.2 hlt)
end Go.AM
