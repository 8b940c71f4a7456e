/- Part 4 of the proof: the abstract machine, what the functions compute, and plain laws over that. -/
import Derived.Test.YtonknblidjpfeaaSt3
set_option linter.all false
set_option linter.unusedSimpArgs false
set_option linter.unusedVariables false
set_option linter.unusedSectionVars false
namespace Go.AM
open Go Go.RowKit
section
variable {P : Program} {ty : Nat → K} {cd : Cd} {X : List Nat} {B0 : Nat} {w0 : World}
section ops
variable {R : Type} {E : Env} {hint : Hint} {μ : List Loc} {H : List AObj} {w : World} {regs : List V} {a : Act} {o : Oper} {k : V → Eff → Option R} {r : R} {next : Act → World → Prop} {Q : Exit → Act → World → Prop}
variable (T : TyOk P E.ty) (h : HOk E.ty P.cellsOf E.rnd X B0 w0 μ H w) (hr : Regs P E.ty (M_ X μ H w) μ regs a.tmps) (hn : Nexts P E.ty E.rnd X B0 w0 μ H w a o.dst k r next)
theorem _root_.List.set_getElem?_self_of {α : Type} {l : List α} {i : Nat} {x : α} (h : l[i]? = some x) : l.set i x = l := by
  obtain ⟨hi, rfl⟩ := List.getElem?_eq_some_iff.1 h
  exact List.set_getElem_self hi
theorem run_builtin {c : Call} {b : Builtin} (ho : o.op = .call c) (hc : c.callee = .builtin b) : ∃ cs, execOp a.eval o = Go.builtin b c.argTypes o.type cs (c.args.map a.eval) := by
  refine ⟨c.args.map fun | .const _ => true | _ => false, ?_⟩
  simp only [execOp, ho, resolve, hc]
  rfl
theorem vals_two {xs : List Operand} {ts : List Nat} {s x : V} {t u : Nat} (hl : xs.length = ts.length) (h1 : vals regs E.ty xs ts = [s, x]) (h2 : ts = [t, u]) : ∃ ao bo, xs = [ao, bo] ∧ s = val regs (E.ty t) ao ∧ x = val regs (E.ty u) bo := by
  subst h2
  match xs, hl with
  | [ao, bo], _ => simp only [vals, List.cons.injEq, and_true] at h1; exact ⟨ao, bo, rfl, h1.1.symm, h1.2.symm⟩
include T h hr hn
theorem append_new {c : Call} {t u e : Nat} {ao bo : Operand} (ho : o.op = .call c) (hc : c.callee = .builtin .append) (hargs : c.args.toList = [ao, bo]) (hts : c.argTypes.toList = [t, u]) (hk : E.ty t = .slice e) {κu : K} (hku : E.ty u = κu) (hκu : κu = .str ∨ ∃ e', κu = .slice e')
    {base : Option Addr} {sLen sCap : Nat} {xs ys : List D} {cs os : List Value} (hs : a.eval ao = .slice base sLen sCap) (hlen : (Builtin.lenOf (a.eval bo)).run P w = .ok ys.length w) (hcap : sCap < sLen + ys.length) (hmax : sLen + ys.length ≤ maxLen) (hxs : xs.length = sLen)
    (hsrc : ∀ w' : World, (∀ b : Nat, w'.heap[b]? = w.heap[b]?) → (Builtin.firstCells (P.cellsOf e) ys.length (a.eval bo)).run P w' = .ok cs.toArray w') (hys : Reps E.ty (M_ X μ H w) ys (List.replicate ys.length (E.ty e)) cs)
    (hold : ∀ w' : World, (∀ b : Nat, w'.heap[b]? = w.heap[b]?) → (Builtin.firstCells (P.cellsOf e) sLen (.slice base sLen sCap)).run P w' = .ok os.toArray w') (hxsr : Reps E.ty (M_ X μ H w) xs (List.replicate xs.length (E.ty e)) os)
    {H' : List AObj} (h' : HOk E.ty P.cellsOf E.rnd X B0 w0 μ H' w) (hle : (M_ X μ H w).le (M_ X μ H' w)) :
    ∃ w' μ', (execOp a.eval o).run P w = .ok (.value (.slice (some ⟨w.heap.size, 0, none⟩) (sLen + ys.length) (match (Builtin.append_ c.argTypes o.type (c.args.map a.eval)).run P w with | .ok (.slice _ _ cap) _ => cap | _ => 0))) w' ∧
      HOk E.ty P.cellsOf E.rnd X B0 w0 μ' (H' ++ [.row e true true (xs ++ ys)]) w' ∧ Fut X B0 μ.length μ H' w μ' (H' ++ [.row e true true (xs ++ ys)]) w' ∧
      RR E.ty P.cellsOf (M_ X μ' (H' ++ [.row e true true (xs ++ ys)]) w') μ' (.sref H'.length 0 (sLen + ys.length)) (.slice (some ⟨w.heap.size, 0, none⟩) (sLen + ys.length) (match (Builtin.append_ c.argTypes o.type (c.args.map a.eval)).run P w with | .ok (.slice _ _ cap) _ => cap | _ => 0)) := by
  have hne := under_slice_ne T hk
  have hux : ∃ dx, P.underlying u = some dx ∧ ∀ k, dx ≠ .int k := by
    rcases hκu with rfl | ⟨e', rfl⟩
    · exact ⟨_, under_str T hku, by simp⟩
    · exact ⟨_, under_slice T hku, by simp⟩
  obtain ⟨dx, hux, hdx⟩ := hux
  have ea : c.argTypes = #[t, u] := by apply Array.toList_inj.1; rw [hts]
  have eb : c.args.map a.eval = #[a.eval ao, a.eval bo] := by apply Array.toList_inj.1; simp [hargs]
  obtain ⟨cap, rest, hc1, hc2, hrun⟩ := run_append_new (T' := T) (ty0 := o.type) (under_slice T hk) hne hux hdx hlen hcap hmax hsrc hold
  rw [ea, eb, hs, hrun]
  simp only []
  have hl : (xs ++ ys).length = sLen + ys.length := by simp [hxs]
  obtain ⟨h1, h2, h3⟩ := newRow_adopt h' (w' := { w with drawn := w.drawn + 1, heap := w.heap.push (.cells (os ++ cs ++ rest).toArray e) })
    ⟨rfl, rfl, rfl, by simp, fun i hi => by simp only [Array.getElem?_push]; rw [if_neg (by omega)]⟩ (blk := w.heap.size) (e := e) (cap := cap) (et := e) (fz := (0, 0)) (cs := (os ++ cs ++ rest).toArray) (ds := xs ++ ys) (mid := os ++ cs) (post := rest)
    (Nat.le_refl _) (by simp) hne (by simp) (fun M' hM => by
      rw [List.length_append, ← List.replicate_append_replicate]
      exact Reps.mono _ (Mem.le_trans hle hM) _ _ _ (hxsr.append hys)) (by omega) (by rw [hl, hc2]; exact Nat.le_refl _) (by simp)
  rw [hl] at h1 h2 h3
  refine ⟨_, _, ?_, h1, h2, h3⟩
  obtain ⟨cs', hex⟩ := run_builtin (a := a) ho hc
  rw [hex]
  simp only [Go.builtin]
  rw [ea, eb, hs]
  simp only [run_bind, hrun, run_pure]
theorem append_in {c : Call} {t u e : Nat} {ao bo : Operand} (ho : o.op = .call c) (hc : c.callee = .builtin .append) (hargs : c.args.toList = [ao, bo]) (hts : c.argTypes.toList = [t, u]) (hk : E.ty t = .slice e) {κu : K} (hku : E.ty u = κu) (hκu : κu = .str ∨ ∃ e', κu = .slice e')
    {b off len : Nat} {nn : Bool} {ds ys : List D} {cs : List Value} {l : Loc} {cap : Nat} (hμ : μ[b]? = some l) (hH : H[b]? = some (.row e true nn ds)) (hvirt : l.virt = false) (hs : a.eval ao = .slice (some ⟨l.blk, l.base + off * P.cellsOf e, none⟩) len cap) (hlc : len ≤ cap) (hoc : off + cap ≤ l.cap) (hol : off + len ≤ ds.length)
    (hlen : (Builtin.lenOf (a.eval bo)).run P w = .ok ys.length w) (hcap : len + ys.length ≤ cap)
    (hsrc : ∀ w' : World, (∀ b : Nat, w'.heap[b]? = w.heap[b]?) → (Builtin.firstCells (P.cellsOf e) ys.length (a.eval bo)).run P w' = .ok cs.toArray w') (hys : Reps E.ty (M_ X μ H w) ys (List.replicate ys.length (E.ty e)) cs)
    (hkk : k (.sref H.length 0 (len + ys.length)) (.kill b (.row e true true ((ds.drop off).take len ++ ys))) = some r) : o.wp P a w next Q := by
  have hne := under_slice_ne T hk
  have hux : ∃ dx, P.underlying u = some dx ∧ ∀ k, dx ≠ .int k := by
    rcases hκu with rfl | ⟨e', rfl⟩
    · exact ⟨_, under_str T hku, by simp⟩
    · exact ⟨_, under_slice T hku, by simp⟩
  obtain ⟨dx, hux, hdx⟩ := hux
  have ea : c.argTypes = #[t, u] := by apply Array.toList_inj.1; rw [hts]
  have eb : c.args.map a.eval = #[a.eval ao, a.eval bo] := by apply Array.toList_inj.1; simp [hargs]
  have hobj := h.obj b l _ hμ hH
  simp only [ObjOk] at hobj
  obtain ⟨_, _, _, hb⟩ := hobj
  rw [if_neg (by simp [hvirt])] at hb
  obtain ⟨hnn, hlcap, bs, et, fz, pre, mid, post, h1, h2, h3, h4, h5, h6, het⟩ := hb
  obtain ⟨c1, cm, c2, e1, l1, l2, r1, _, r2⟩ := Reps.drop_take T.szOk hne h4 hol
  have hcs : cs.length = ys.length * P.cellsOf e := by
    have := (Reps.size T.szOk _ _ _ hys).2 (List.replicate ys.length e) (by simp)
    simpa using this
  have hc2 : c2.length = (ds.length - (off + len)) * P.cellsOf e := by
    have := (Reps.size T.szOk _ _ _ r2).2 (List.replicate (ds.length - (off + len)) e) (by simp)
    simpa using this
  have hroom : (cap - len) * P.cellsOf e ≤ (c2 ++ post).length := by
    rw [List.length_append, hc2]
    have : (cap - len) ≤ (ds.length - (off + len)) + (l.cap - ds.length) := by omega
    calc (cap - len) * P.cellsOf e ≤ ((ds.length - (off + len)) + (l.cap - ds.length)) * P.cellsOf e := Nat.mul_le_mul_right _ this
      _ = (ds.length - (off + len)) * P.cellsOf e + (l.cap - ds.length) * P.cellsOf e := Nat.add_mul _ _ _
      _ ≤ _ := by omega
  have hn2 : ys.length * P.cellsOf e ≤ (c2 ++ post).length := Nat.le_trans (Nat.mul_le_mul_right _ (by omega)) hroom
  let seg := (c2 ++ post).take (ys.length * P.cellsOf e)
  let rest := (c2 ++ post).drop (ys.length * P.cellsOf e)
  have hseg : seg.length = cs.length := by simp only [seg, List.length_take, hcs]; omega
  have hbs : bs.toList = (pre ++ c1 ++ cm) ++ seg ++ rest := by
    rw [h2, e1]
    simp only [seg, rest, List.append_assoc, List.take_append_drop]
  have hbs' : w.heap[l.blk]? = some (.cells ((pre ++ c1 ++ cm) ++ seg ++ rest).toArray et fz) := by rw [← hbs]; exact h1
  have hcsc : ∀ v ∈ cs, scal v = true := Reps.scal _ _ _ _ hys
  have hpre : (pre ++ c1 ++ cm).length = l.base + off * P.cellsOf e + len * P.cellsOf e := by simp [h3, l1, l2]; omega
  have hst := run_storeCells (P := P) (b := l.blk) (base := l.base + off * P.cellsOf e + len * P.cellsOf e) (et := et) (fz := fz) cs 0 (pre ++ c1 ++ cm) seg rest w hbs' hseg (by simpa using hpre) hcsc (fun o ho => h6 o (by
    have : bs.size = bs.toList.length := by simp
    rw [this, hbs]; exact Nat.lt_add_right _ ho))
  have hrun := run_append_in (T' := T) (ty0 := o.type) (base := some ⟨l.blk, l.base + off * P.cellsOf e, none⟩) (sLen := len) (sCap := cap) (under_slice T hk) hne hux hdx hlen (hsrc w (fun _ => rfl)) hcap
    (w' := putBlk w l.blk (.cells ((pre ++ c1 ++ cm) ++ cs ++ rest).toArray et fz)) (by simpa [addr_add] using hst)
  obtain ⟨cs', hex⟩ := run_builtin (a := a) ho hc
  have hfin : (execOp a.eval o).run P w = .ok (.value (.slice (some ⟨l.blk, l.base + off * P.cellsOf e, none⟩) (len + ys.length) cap)) (putBlk w l.blk (.cells ((pre ++ c1 ++ cm) ++ cs ++ rest).toArray et fz)) := by
    rw [hex]
    simp only [Go.builtin]
    rw [ea, eb, hs]
    simp only [run_bind, hrun, run_pure]
  have hlx : ((ds.drop off).take len).length = len := by simp; omega
  have hly : ((ds.drop off).take len ++ ys).length = len + ys.length := by simp; omega
  obtain ⟨g1, g2⟩ := HOk.killPut h (l' := ⟨l.blk, l.base + off * P.cellsOf e, cap, .array (len + ys.length) e, false, true⟩) (o' := .row e true true ((ds.drop off).take len ++ ys)) (obj := .cells ((pre ++ c1 ++ cm) ++ cs ++ rest).toArray et fz) hμ hH (by simp [ownB, hvirt]) (by simp [ownB]) (fun M' hM => by
    simp only [ObjOk]
    refine ⟨by rw [hly], trivial, hne, ?_⟩
    rw [if_neg (by simp)]
    refine ⟨trivial, by omega, ((pre ++ c1 ++ cm) ++ cs ++ rest).toArray, et, fz, pre ++ c1, cm ++ cs, rest, ?_, by simp, by simp [h3, l1], ?_, ?_, ?_, het.size (by have h9 : bs.size = bs.toList.length := (by simp); rw [h9, hbs]; simp [hseg])⟩
    · rw [putBlk_heap, if_pos ⟨rfl, lt_of_block h1⟩]
    · rw [hly, ← List.replicate_append_replicate]
      exact Reps.mono _ hM _ _ _ (r1.append hys)
    · rw [hly]
      have e9 : rest.length = (c2 ++ post).length - ys.length * P.cellsOf e := by simp [rest]
      have : (cap - (len + ys.length)) * P.cellsOf e = (cap - len) * P.cellsOf e - ys.length * P.cellsOf e := by
        rw [← Nat.sub_mul]; congr 1; omega
      omega
    · intro o ho
      refine h6 o ?_
      have : bs.size = bs.toList.length := by simp
      rw [this, hbs]
      simp at ho ⊢
      omega)
  refine wp_value hfin (hn _ _ _ _ _ hkk (.inr ⟨.slice e, ?_⟩) g1 g2)
  simp only [RV]
  refine ⟨⟨l.blk, l.base + off * P.cellsOf e, cap, .array (len + ys.length) e, false, true⟩, len + ys.length, e, ?_, rfl, rfl, by omega, .inr (.inl ⟨rfl, cap, by simp, hcap, by simp, by simpa using hcap⟩)⟩
  rw [← h.len]; simp
omit hr hn in
theorem splice_ok {b e : Nat} {l : Loc} {nn : Bool} {ds : List D} (hμ : μ[b]? = some l) (hH : H[b]? = some (.row e true nn ds)) (hvirt : l.virt = false) {p : Nat} {ys : List D} {cs : List Value} (hys : Reps E.ty (M_ X μ H w) ys (List.replicate ys.length (E.ty e)) cs) (hp : p + ys.length ≤ ds.length) :
    ∃ w', (storeCells ⟨l.blk, l.base + p * P.cellsOf e, none⟩ cs).run P w = .ok () w' ∧ HOk E.ty P.cellsOf E.rnd X B0 w0 μ (H.set b (.row e true nn (ds.take p ++ ys ++ ds.drop (p + ys.length)))) w' ∧
      Fut X B0 μ.length μ H w μ (H.set b (.row e true nn (ds.take p ++ ys ++ ds.drop (p + ys.length)))) w' := by
  have hobj := h.obj b l _ hμ hH
  have hne : E.ty e ≠ .bad := by simp only [ObjOk] at hobj; exact hobj.2.2.1
  have hob := hobj
  simp only [ObjOk] at hob
  obtain ⟨_, _, _, hob⟩ := hob
  rw [if_neg (by simp [hvirt])] at hob
  obtain ⟨hnn, hcap, bs, et, fz, pre, mid, post, h1, h2, h3, h4, h5, h6, het⟩ := hob
  obtain ⟨c1, cm, c2, e1, l1, l2, r1, r0, r2⟩ := Reps.drop_take T.szOk hne h4 (i := p) (n := ys.length) hp
  have hcs : cs.length = ys.length * P.cellsOf e := by
    have := (Reps.size T.szOk _ _ _ hys).2 (List.replicate ys.length e) (by simp)
    simpa using this
  have hbs : bs = ((pre ++ c1) ++ cm ++ (c2 ++ post)).toArray := by apply Array.toList_inj.1; rw [h2, e1]; simp
  have hst := run_storeCells (P := P) (b := l.blk) (base := l.base + p * P.cellsOf e) (et := et) (fz := fz) cs 0 (pre ++ c1) cm (c2 ++ post) w (by rw [← hbs]; exact h1) (by rw [l2, hcs]) (by simp [h3, l1]) (Reps.scal _ _ _ _ hys) (fun o ho => h6 o (by
    have : bs.size = bs.toList.length := by simp
    rw [this, hbs]; exact Nat.lt_add_right _ (by simpa using ho)))
  have hlen : (ds.take p ++ ys ++ ds.drop (p + ys.length)).length = ds.length := by simp; omega
  refine ⟨_, hst, ?_⟩
  refine HOk.put h hμ hH (by simp [ownB, hvirt]) (by simp [ownB, hvirt]) ?_
  simp only [ObjOk] at hobj ⊢
  rw [hlen]
  refine ⟨hobj.1, hobj.2.1, hne, ?_⟩
  rw [if_neg (by simp [hvirt])]
  refine ⟨hnn, hcap, ((pre ++ c1) ++ cs ++ (c2 ++ post)).toArray, et, fz, pre, c1 ++ cs ++ c2, post, ?_, by simp, h3, ?_, h5, ?_, het.size (by rw [hbs]; simp [l2, hcs])⟩
  · rw [putBlk_heap, if_pos ⟨rfl, lt_of_block h1⟩]
  · have er : List.replicate ds.length (E.ty e) = List.replicate p (E.ty e) ++ List.replicate ys.length (E.ty e) ++ List.replicate (ds.length - (p + ys.length)) (E.ty e) := by
      rw [List.replicate_append_replicate, List.replicate_append_replicate]; congr 1; omega
    rw [er]
    exact (r0.append hys).append r2
  · intro o ho
    refine h6 o ?_
    have : bs.size = bs.toList.length := by simp
    rw [this, hbs]
    simp [hcs, l2] at ho ⊢
    omega
theorem op_append {c : Call} (ho : o.op = .call c) (hc : c.callee = .builtin .append) (hl : c.args.toList.length = c.argTypes.toList.length) (he : evAppend E hint.inpl H (vals regs E.ty c.args.toList c.argTypes.toList) c.argTypes.toList k = some r) : o.wp P a w next Q := by
  unfold evAppend at he
  split at he
  · rename_i s x t u hvs hts
    obtain ⟨ao, bo, hargs, rfl, rfl⟩ := vals_two hl hvs hts
    split at he
    · rename_i e hk
      have hne := under_slice_ne T hk
      split at he
      · rename_i ys hlit
        have hrx := val_ok hr (E.ty u) bo
        have hrs := val_ok hr (E.ty t) ao
        obtain ⟨hlen, ⟨cs, hsrc, hys⟩, hκu⟩ := src_ok T h hrx hlit
        have ea : c.argTypes = #[t, u] := by apply Array.toList_inj.1; rw [hts]
        have eb : c.args.map a.eval = #[a.eval ao, a.eval bo] := by apply Array.toList_inj.1; simp [hargs]
        have hux : ∃ dx, P.underlying u = some dx ∧ ∀ k, dx ≠ .int k := by
          rcases hκu with hκu | ⟨e', hκu⟩
          · exact ⟨_, under_str T hκu, by simp⟩
          · exact ⟨_, under_slice T hκu, by simp⟩
        obtain ⟨dx, hux, hdx⟩ := hux
        have hstay : ∀ (base : Option Addr) (n cap : Nat), a.eval ao = .slice base n cap → ys = [] → n ≤ cap → (execOp a.eval o).run P w = .ok (.value (.slice base n cap)) w := by
          intro base n cap hs h0 hcap
          subst h0
          have hcs0 : cs = [] := by have := Reps.length hys; simp [Reps] at hys; exact hys
          subst hcs0
          have hrun := run_append_in (T' := T) (ty0 := o.type) (base := base) (sLen := n) (sCap := cap) (under_slice T hk) hne hux hdx hlen (hsrc w (fun _ => rfl)) (by simpa using hcap) (w' := w) (by cases base <;> simp [storeCells, run_pure])
          obtain ⟨cs', hex⟩ := run_builtin (a := a) ho hc
          rw [hex]
          simp only [Go.builtin]
          rw [ea, eb, hs]
          simp only [run_bind, hrun, run_pure]
          simp
        have hempty : ∀ (base : Option Addr) (H' : List AObj) (eff : List D → Eff), a.eval ao = .slice base 0 0 → HOk E.ty P.cellsOf E.rnd X B0 w0 μ H' w → (M_ X μ H w).le (M_ X μ H' w) → H'.length = H.length → ys.length ≤ maxLen →
            (∀ ds, (Eff.app (eff ds) H) = H' ++ [.row e true (base.isSome || !ys.isEmpty) ds]) → k (.sref H.length 0 ys.length) (eff ys) = some r → o.wp P a w next Q := by
          intro base H' eff hs h' hle hH' hmax heff hkk
          cases hys0 : ys with
          | nil =>
            rw [hys0] at hkk
            obtain ⟨g1, g2, g3⟩ := newVirt h' (Below.refl _ _) hne base
            have := heff []
            rw [hys0] at this
            simp only [List.isEmpty_nil, Bool.not_true, Bool.or_false] at this
            refine wp_value (hstay base 0 0 hs hys0 (Nat.le_refl _)) (hn _ (eff []) (μ ++ [⟨0, 0, 0, .array 0 e, true, base.isSome⟩]) w _ hkk ?_ ?_ ?_)
            · rw [this]; rw [hH'] at g3; exact g3
            · rw [this]; exact g1
            · rw [this]; exact ⟨g2.loc, g2.len, Mem.le_trans hle g2.mem, g2.below, g2.dfr⟩
          | cons y ys' =>
            have hpos : 0 < ys.length := by rw [hys0]; simp
            obtain ⟨w', μ', g0, g1, g2, g3⟩ := append_new T h hr hn ho hc hargs hts hk rfl hκu (xs := []) (os := []) hs hlen (by omega) (by omega) rfl hsrc hys
              (fun w' _ => by cases base <;> simp [Builtin.firstCells, loadCells, loadCellsFrom, run_pure]) (by simp [Reps]) h' hle
            have := heff ys
            have hne' : ys.isEmpty = false := by rw [hys0]; rfl
            rw [hne'] at this
            simp only [Bool.not_false, Bool.or_true] at this
            refine wp_value g0 (hn _ (eff ys) μ' w' _ hkk ?_ ?_ ?_)
            · rw [this]; rw [hH'] at g3; simpa using g3
            · rw [this]; exact g1
            · rw [this]; exact ⟨g2.loc, g2.len, Mem.le_trans hle g2.mem, g2.below, g2.dfr⟩
        split at he
        · rename_i e' hb
          split at he
          · rename_i hee
            subst hee
            cases hmax : decide (ys.length ≤ maxLen) with
            | false => rw [hmax] at he; simp at he
            | true =>
            rw [hmax] at he
            simp only [cond_true] at he
            rw [hb] at hrs
            replace hrs := hrs.resolve_left (by simp)
            obtain ⟨κ0, hrs⟩ := hrs
            simp only [RV] at hrs
            obtain ⟨rfl, hrs⟩ := hrs
            simp only [Rep] at hrs
            obtain ⟨e1, ad, cap, h1, hs, _, hnn, hnil, _⟩ := hrs
            have had : ad = none := by cases ad with | none => rfl | some _ => simp at hnn
            subst had
            have hcap0 := hnil rfl
            subst hcap0
            exact hempty none H (fun ds => .new (.row e' true (!ys.isEmpty) ds)) hs h (Mem.le_refl _) rfl (of_decide_eq_true hmax) (fun ds => by simp [Eff.app]) he
          · simp at he
        · rename_i e' ds hb
          split at he
          · rename_i hee
            subst hee
            rw [hb] at hrs
            replace hrs := hrs.resolve_left (by simp)
            obtain ⟨κ0, hrs⟩ := hrs
            have hrs' := hrs
            simp only [RV] at hrs
            obtain ⟨_, ad, os, hs, hat, hxs⟩ := hrs
            split at he
            · cases hmax : decide (ys.length ≤ maxLen) with
              | false => rw [hmax] at he; simp at he
              | true =>
              rw [hmax] at he
              simp only [cond_true] at he
              exact hempty (some ad) H (fun ds => .new (.row e' true true ds)) hs h (Mem.le_refl _) rfl (of_decide_eq_true hmax) (fun ds => by simp [Eff.app]) he
            · rename_i d0 ds0
              cases ys with
              | nil => exact wp_value (hstay _ _ _ hs rfl (Nat.le_refl _)) (hn.same h he (.inr ⟨κ0, hs ▸ hrs'⟩))
              | cons y0 ys0 =>
                simp only [List.isEmpty_cons, cond_false] at he
                cases hmax : decide ((d0 :: ds0).length + (y0 :: ys0).length ≤ maxLen) with
                | false => rw [hmax] at he; simp at he
                | true =>
                rw [hmax] at he
                simp only [cond_true] at he
                have hos : os.length = (d0 :: ds0).length * P.cellsOf e' := by
                  have := (Reps.size T.szOk _ _ _ hxs).2 (List.replicate (d0 :: ds0).length e') (by simp)
                  simpa using this
                obtain ⟨w', μ', g0, g1, g2, g3⟩ := append_new T h hr hn ho hc hargs hts hk rfl hκu (xs := d0 :: ds0) (os := os) hs hlen (by simp) (of_decide_eq_true hmax) rfl hsrc hys
                  (fun w' hw' => by
                    simp only [Builtin.firstCells]
                    rw [← hos]
                    refine run_loadCells hat.1 (fun j v hj => ?_)
                    have := hat.2 j v hj
                    simp only [M_, memOf] at this
                    split at this
                    · simp at this
                    · rw [cell_congr (hw' _)]; exact this) hxs h (Mem.le_refl _)
                exact wp_value g0 (hn _ _ _ _ _ he g3 g1 g2)
          · simp at he
        · rename_i b off len hb
          split at he
          · rename_i e' nn ds hH
            split at he
            · rename_i hee
              subst hee
              cases hin : hint.inpl with
              | true =>
                rw [hin] at he
                simp only [cond_true] at he
                cases hmax : decide (off + len + ys.length ≤ ds.length) with
                | false => rw [hmax] at he; simp at he
                | true =>
                rw [hmax] at he
                simp only [cond_true] at he
                simp only [decide_eq_true_eq] at hmax
                rw [hb] at hrs
                replace hrs := hrs.resolve_left (by simp)
                obtain ⟨κ0, hrs⟩ := hrs
                have hrs0 := hrs
                simp only [RV] at hrs
                obtain ⟨l, n, e0, hμ, hl, hκ0, hlen', hx⟩ := hrs
                obtain ⟨rfl, rfl⟩ := row_loc h hH hμ hl
                have hnil : ∀ {base : Option Addr} {cap : Nat}, a.eval ao = .slice base len cap → len ≤ cap → ys = [] → o.wp P a w next Q := by
                  intro base cap hs hc hy
                  subst hy
                  have hset : H.set b (.row e0 true nn (ds.take (off + len) ++ [] ++ ds.drop (off + len + ([] : List D).length))) = H := by
                    rw [List.append_nil, List.length_nil, Nat.add_zero, List.take_append_drop]
                    exact List.set_getElem?_self_of hH
                  refine wp_value (hstay _ _ _ hs rfl hc) (hn _ _ μ w _ he (.inr ⟨κ0, ?_⟩) ?_ ?_)
                  · simp only [Eff.app, List.length_nil, Nat.add_zero]
                    simp only [List.length_nil, Nat.add_zero] at hset
                    rw [hset, ← hs]; exact hrs0
                  · simp only [Eff.app]; rw [hset]; exact h
                  · simp only [Eff.app]; rw [hset]; exact Fut.refl h
                rcases hx with ⟨hvirt, rfl, ad, hs, ha⟩ | ⟨hvirt, cap, hs, hlc, hoc, hreach⟩ | ⟨hvirt, rfl, hreach, ad, hs⟩
                · have hobj := h.obj b l _ hμ hH
                  have hd0 : ds = [] := by simp only [ObjOk] at hobj; rw [if_pos hvirt] at hobj; exact hobj.2.2.2
                  have hdl : ds.length = 0 := by rw [hd0]; rfl
                  exact hnil hs (Nat.le_refl _) (List.eq_nil_of_length_eq_zero (by omega))
                · obtain ⟨w', hst, g1, g2⟩ := splice_ok T h hμ hH hvirt (p := off + len) hys hmax
                  have hrun := run_append_in (T' := T) (ty0 := o.type) (base := some ⟨l.blk, l.base + off * P.cellsOf e0, none⟩) (sLen := len) (sCap := cap) (under_slice T hk) hne hux hdx hlen (hsrc w (fun _ => rfl)) (by omega)
                    (w' := w') (by simpa [addr_add, Nat.add_mul, Nat.add_assoc] using hst)
                  obtain ⟨cs', hex⟩ := run_builtin (a := a) ho hc
                  have hfin : (execOp a.eval o).run P w = .ok (.value (.slice (some ⟨l.blk, l.base + off * P.cellsOf e0, none⟩) (len + ys.length) cap)) w' := by
                    rw [hex]
                    simp only [Go.builtin]
                    rw [ea, eb, hs]
                    simp only [run_bind, hrun, run_pure]
                  refine wp_value hfin (hn _ _ _ _ _ he (.inr ⟨.slice e0, ?_⟩) g1 g2)
                  simp only [RV]
                  exact ⟨l, ds.length, e0, hμ, hl, rfl, by omega, .inr (.inl ⟨hvirt, cap, rfl, by omega, hoc, hreach⟩)⟩
                · exact hnil hs (Nat.le_refl _) (List.eq_nil_of_length_eq_zero (by omega))
              | false =>
              rw [hin] at he
              simp only [cond_false] at he
              cases hmax : decide (len + ys.length ≤ maxLen) with
              | false => rw [hmax] at he; simp at he
              | true =>
              rw [hmax] at he
              simp only [cond_true] at he
              simp only [decide_eq_true_eq] at hmax
              rw [hb] at hrs
              replace hrs := hrs.resolve_left (by simp)
              obtain ⟨κ0, hrs⟩ := hrs
              simp only [RV] at hrs
              obtain ⟨l, n, e0, hμ, hl, _, hlen', hx⟩ := hrs
              obtain ⟨rfl, rfl⟩ := row_loc h hH hμ hl
              have hobj := h.obj b l _ hμ hH
              obtain ⟨hd1, hd2⟩ := h.less hμ hH (o' := .dead) (by simp [ownB]) (by simp [usesB]) (fun _ _ => trivial)
              have hdl : (H.set b .dead).length = H.length := by simp
              have hlx : ((ds.drop off).take len).length = len := by simp; omega
              rcases hx with ⟨hvirt, rfl, ad, hs, ha⟩ | ⟨hvirt, cap, hs, hlc, hoc, hreach⟩ | ⟨hvirt, rfl, hreach, ad, hs⟩
              · have hlnn : l.nn = nn := by simp only [ObjOk] at hobj; exact hobj.2.1
                refine hempty ad (H.set b .dead) (fun ds' => .kill b (.row e0 true (nn || !ys.isEmpty) ds')) hs hd1 hd2.mem hdl (by omega) (fun ds' => by simp [Eff.app, ha, hlnn]) (by simpa using he)
              · have hnn : nn = true := by
                  simp only [ObjOk] at hobj
                  obtain ⟨_, _, _, hb⟩ := hobj
                  rw [if_neg (by simp [hvirt])] at hb
                  exact hb.1
                subst hnn
                simp only [Bool.true_or] at he
                by_cases hroom : len + ys.length ≤ cap
                · exact append_in T h hr hn ho hc hargs hts hk rfl hκu hμ hH hvirt hs hlc hoc hlen' hlen hroom hsrc hys he
                · have hobj' := hobj
                  simp only [ObjOk] at hobj'
                  obtain ⟨_, _, _, hb⟩ := hobj'
                  rw [if_neg (by simp [hvirt])] at hb
                  obtain ⟨_, hcap, bs, et, fz, pre, mid, post, h1, h2, h3, h4, h5, h6, het⟩ := hb
                  obtain ⟨c1, cm, c2, e1, l1, l2, r1, _, _⟩ := Reps.drop_take T.szOk hne h4 hlen'
                  obtain ⟨w', μ', g0, g1, g2, g3⟩ := append_new T h hr hn ho hc hargs hts hk rfl hκu (xs := (ds.drop off).take len) (os := cm) hs hlen (by omega) hmax hlx hsrc hys
                    (fun w' hw' => by
                      simp only [Builtin.firstCells]
                      rw [← l2]
                      refine run_loadCells rfl (fun j v hj => ?_)
                      rw [cell_congr (hw' _)]
                      have hcell := block_cells h1 (c1 := pre ++ c1) (y := cm) (c2 := c2 ++ post) (by rw [h2, e1]; simp) j v hj
                      simpa [h3, l1, Nat.add_assoc] using hcell) (by rw [hlx]; exact r1) hd1 hd2.mem
                  rw [hdl] at g3
                  exact wp_value g0 (hn _ _ _ _ _ he g3 g1 ⟨g2.loc, g2.len, Mem.le_trans hd2.mem g2.mem, g2.below, g2.dfr⟩)
              · have hnn : nn = true := by
                  simp only [ObjOk] at hobj
                  obtain ⟨_, _, _, hb⟩ := hobj
                  rw [if_neg (by simp [hvirt])] at hb
                  exact hb.1
                subst hnn
                refine hempty (some ad) (H.set b .dead) (fun ds' => .kill b (.row e0 true true ds')) hs hd1 hd2.mem hdl (by omega) (fun ds' => by simp [Eff.app]) (by simpa using he)
            · simp at he
          · simp at he
        · simp at he
      · simp at he
    · simp at he
  · simp at he
end ops
end
end Go.AM
namespace Go.AM
open Go Go.RowKit
section
variable {P : Program} {ty : Nat → K} {cd : Cd} {X : List Nat} {B0 : Nat} {w0 : World}
section ops
variable {R : Type} {E : Env} {hint : Hint} {μ : List Loc} {H : List AObj} {w : World} {regs : List V} {a : Act} {o : Oper} {k : V → Eff → Option R} {r : R} {next : Act → World → Prop} {Q : Exit → Act → World → Prop}
variable (T : TyOk P E.ty) (h : HOk E.ty P.cellsOf E.rnd X B0 w0 μ H w) (hr : Regs P E.ty (M_ X μ H w) μ regs a.tmps) (hn : Nexts P E.ty E.rnd X B0 w0 μ H w a o.dst k r next)
theorem vals_one {xs : List Operand} {ts : List Nat} {s : V} {t : Nat} (hl : xs.length = ts.length) (h1 : vals regs E.ty xs ts = [s]) (h2 : ts = [t]) : ∃ ao, xs = [ao] ∧ s = val regs (E.ty t) ao := by
  subst h2
  match xs, hl with
  | [ao], _ => simp only [vals, List.cons.injEq, and_true] at h1; exact ⟨ao, rfl, h1.symm⟩
include T h hr hn
theorem op_len {c : Call} (ho : o.op = .call c) (hc : c.callee = .builtin .len) (hl : c.args.toList.length = c.argTypes.toList.length) (he : evLen E H (vals regs E.ty c.args.toList c.argTypes.toList) c.argTypes.toList k = some r) : o.wp P a w next Q := by
  unfold evLen at he
  split at he
  · rename_i v t hvs hts
    obtain ⟨ao, hargs, rfl⟩ := vals_one hl hvs hts
    have hrs := val_ok hr (E.ty t) ao
    have ea : c.argTypes = #[t] := by apply Array.toList_inj.1; rw [hts]
    have eb : c.args.map a.eval = #[a.eval ao] := by apply Array.toList_inj.1; simp [hargs]
    obtain ⟨cs', hex⟩ := run_builtin (a := a) ho hc
    have hfin : ∀ n : Int, (Builtin.len_ #[t] o.type #[a.eval ao]).run P w = .ok (.int .i64 n) w → k (.d (.int .i64) (.int .i64 n)) .none = some r → o.wp P a w next Q := by
      intro n hrun hk
      refine wp_value (x := .int .i64 n) (w' := w) ?_ (hn.same h hk (.inr ⟨.int .i64, by simp [RV, Rep]⟩))
      rw [hex]
      simp only [Go.builtin]
      rw [ea, eb]
      simp only [run_bind, hrun, run_pure]
    split at he
    · rename_i hk
      split at he
      · rename_i d hb
        rw [hb] at hrs
        replace hrs := hrs.resolve_left (by simp)
        obtain ⟨κ0, hrs⟩ := hrs
        simp only [RV] at hrs
        obtain ⟨rfl, hrs⟩ := hrs
        have hx := rep_str hrs
        refine hfin _ ?_ he
        simp only [Builtin.len_, List.getElem?_toArray, List.getElem?_cons_zero, hx]
        simp only [run_bind, run_underlying T (under_str T hk), run_pure, goInt]
      · simp at he
    · rename_i e hk
      have hsl : ∀ ad n cap, a.eval ao = .slice ad n cap → (Builtin.len_ #[t] o.type #[a.eval ao]).run P w = .ok (.int .i64 n) w := by
        intro ad n cap hx
        simp only [Builtin.len_, List.getElem?_toArray, List.getElem?_cons_zero, hx]
        simp only [run_bind, run_underlying T (under_slice T hk), run_pure, goInt]
      split at he
      · rename_i e' d hb
        split at he
        · rename_i hee
          subst hee
          rw [hb] at hrs
          replace hrs := hrs.resolve_left (by simp)
          obtain ⟨κ0, hrs⟩ := hrs
          simp only [RV] at hrs
          obtain ⟨rfl, hrs⟩ := hrs
          cases d with
          | slice nn ds =>
            simp only [Rep] at hrs
            obtain ⟨_, ad, cap, _, hx, _⟩ := hrs
            exact hfin _ (hsl _ _ _ hx) he
          | agg ds => simp [Rep, K.isAgg] at hrs
          | tup _ => simp [Rep] at hrs
          | _ => simp [Rep] at hrs
        · simp at he
      · rename_i e' ds hb
        rw [hb] at hrs
        replace hrs := hrs.resolve_left (by simp)
        obtain ⟨κ0, hrs⟩ := hrs
        simp only [RV] at hrs
        obtain ⟨_, ad, cs, hx, _⟩ := hrs
        exact hfin _ (hsl _ _ _ hx) he
      · rename_i b off n hb
        rw [hb] at hrs
        replace hrs := hrs.resolve_left (by simp)
        obtain ⟨κ0, hrs⟩ := hrs
        simp only [RV] at hrs
        obtain ⟨l, m, e0, _, _, _, _, hx⟩ := hrs
        rcases hx with ⟨_, rfl, ad, hx, _⟩ | ⟨_, cap, hx, _⟩ | ⟨_, rfl, _, ad, hx⟩
        · exact hfin _ (hsl _ _ _ hx) he
        · exact hfin _ (hsl _ _ _ hx) he
        · exact hfin _ (hsl _ _ _ hx) he
      · simp at he
    · rename_i ka ke hk
      split at he
      · rename_i b hb
        split at he
        · rename_i ka' ke' es hH
          rw [hb] at hrs
          replace hrs := hrs.resolve_left (by simp)
          obtain ⟨κ0, hrs⟩ := hrs
          simp only [RV] at hrs
          obtain ⟨l, a', e', hμ, _, _, hx⟩ := hrs
          have hobj := h.obj b l _ hμ hH
          simp only [ObjOk] at hobj
          obtain ⟨_, _, _, ms, hblk, hent⟩ := hobj
          have hlen : ∀ (n : Nat) (es : List (D × D)) (ms : List MapEntry), Entries E.ty (memOf w (X ++ owned μ H)) (E.ty ka') (E.ty ke') n es ms → ms.length = es.length := by
            intro n es
            induction es generalizing n with
            | nil => intro ms hm; simp only [Entries] at hm; subst hm; rfl
            | cons x es ih => intro ms hm; simp only [Entries] at hm; obtain ⟨m, rest, rfl, _, _, _, hm⟩ := hm; simp [ih _ _ hm]
          refine hfin _ ?_ he
          simp only [Builtin.len_, List.getElem?_toArray, List.getElem?_cons_zero, hx]
          simp only [run_bind, run_underlying T (under_map T hk).1, getObj, Sem.run, hblk, run_pure, goInt]
          have := hlen _ _ _ hent
          simp at this
          rw [this]
        · simp at he
      · simp at he
    · rename_i m e hk
      refine hfin _ ?_ he
      simp only [Builtin.len_, List.getElem?_toArray, List.getElem?_cons_zero]
      simp only [run_bind, run_underlying T (under_array T hk).1, run_pure, goInt]
    · simp at he
  · simp at he
omit T h hn in
theorem maxInts_ok (kd : IntKind) (most : Bool) : ∀ (vs : List V) (xs : List Value) (x y : Int), RVt E.ty P.cellsOf (M_ X μ H w) μ vs xs → maxInts kd most x vs = some y →
    (xs.foldlM (if most = true then Builtin.max2 else Builtin.min2) (Value.int kd x)).run P w = .ok (.int kd y) w
  | [], xs, x, y, hx, hm => by
    simp only [RVt] at hx; subst hx
    simp only [maxInts, Option.some.injEq] at hm; subst hm
    simp [run_pure]
  | v :: vs, xs, x, y, hx, hm => by
    simp only [RVt] at hx
    obtain ⟨z, rest, rfl, hz, hrest⟩ := hx
    cases v with
    | d κ d =>
      cases κ with
      | int k' =>
        simp only [maxInts] at hm
        split at hm
        · rename_i hk
          subst hk
          replace hz := hz.resolve_left (by simp)
          obtain ⟨κ0, hz⟩ := hz
          simp only [RV] at hz
          obtain ⟨rfl, hz⟩ := hz
          have := rep_int hz
          subst this
          rw [List.foldlM_cons]
          cases most with
          | true =>
            simp only [if_true, Builtin.max2, run_bind, run_pure]
            simpa using maxInts_ok k' true vs rest _ y hrest (by simpa using hm)
          | false =>
            simp only [Bool.false_eq_true, if_false, Builtin.min2, run_bind, run_pure]
            simpa using maxInts_ok k' false vs rest _ y hrest (by simpa using hm)
        · simp at hm
      | _ => simp [maxInts] at hm
    | _ => simp [maxInts] at hm
omit T h hn in
theorem RVt.of_vals' : ∀ (xs : List Operand) (ts : List Nat), xs.length = ts.length → RVt E.ty P.cellsOf (M_ X μ H w) μ (vals regs E.ty xs ts) (xs.map a.eval)
  | [], [], _ => by simp [vals, RVt]
  | x :: xs, t :: ts, hl => by
    simp only [vals, List.map_cons, RVt]
    exact ⟨_, _, rfl, val_ok hr _ _, RVt.of_vals' xs ts (by simpa using hl)⟩
  | [], _ :: _, hl => by simp at hl
  | _ :: _, [], hl => by simp at hl
omit T in
theorem op_maxmin {c : Call} {most : Bool} (ho : o.op = .call c) (hc : c.callee = .builtin (if most = true then .max else .min)) (hl : c.args.toList.length = c.argTypes.toList.length) (he : evMaxMin most (vals regs E.ty c.args.toList c.argTypes.toList) k = some r) : o.wp P a w next Q := by
  unfold evMaxMin at he
  split at he
  · rename_i kd d vs hvs
    split at he
    · rename_i n hn'
      have hall := RVt.of_vals' hr c.args.toList c.argTypes.toList hl
      rw [hvs] at hall
      simp only [RVt] at hall
      obtain ⟨z, rest, hxs, hz, hrest⟩ := hall
      replace hz := hz.resolve_left (by simp)
      obtain ⟨κ0, hz⟩ := hz
      simp only [RV] at hz
      obtain ⟨rfl, hz⟩ := hz
      have := rep_int hz
      subst this
      have hm := maxInts_ok hr kd most vs rest d.i n hrest hn'
      obtain ⟨cs', hex⟩ := run_builtin (a := a) ho hc
      have eb : (c.args.map a.eval).toList = .int kd d.i :: rest := by simp [hxs]
      refine wp_value (x := .int kd n) (w' := w) ?_ (hn.same h he (.inr ⟨.int kd, by simp [RV, Rep]⟩))
      rw [hex]
      cases most with
      | true =>
        simp only [if_true, Go.builtin, Builtin.max_]
        rw [eb]
        simp only [if_true] at hm
        simp only [run_bind, hm, run_pure]
      | false =>
        simp only [Bool.false_eq_true, if_false, Go.builtin, Builtin.min_]
        rw [eb]
        simp only [Bool.false_eq_true, if_false] at hm
        simp only [run_bind, hm, run_pure]
    · simp at he
  · simp at he
theorem op_range {t : Nat} {x : Operand} (ho : o.op = .range t x) (he : evOp E hint H regs o.type (.range t x) k = some r) : o.wp P a w next Q := by
  simp only [evOp] at he
  have hv := val_ok hr (E.ty t) x
  split at he
  · rename_i d hk hb
    rw [hb] at hv
    replace hv := hv.resolve_left (by simp)
    obtain ⟨κ0, hv⟩ := hv
    simp only [RV] at hv
    obtain ⟨rfl, hv⟩ := hv
    have hx := rep_str hv
    obtain ⟨h1, h2⟩ := HOk.newAt h (l := ⟨w.heap.size, 0, 0, .bad, false, false⟩) (o := .iter d.s 0) (below_push (o := .stringIter d.s 0)) (fun b hb => by simp [usesB] at hb; omega) (fun M' hM => by
      simp [ObjOk])
    refine wp_value (x := .pointer (some ⟨w.heap.size, 0, none⟩)) ?_ (hn _ _ _ _ _ he (.inr ⟨.bad, ?_⟩) h1 h2)
    · simp only [execOp, ho, Instr.range, hx]
      simp only [run_bind, run_underlying T (under_str T hk), run_pure, newObj, Sem.run]
    · simp only [RV]
      refine ⟨trivial, ⟨w.heap.size, 0, 0, .bad, false, false⟩, ?_, rfl, rfl⟩
      rw [← h.len]; simp
  · simp at he
omit T in
theorem op_next {x : Operand} {b : Bool} (ho : o.op = .next x b) (he : evOp E hint H regs o.type (.next x b) k = some r) : o.wp P a w next Q := by
  simp only [evOp] at he
  have hv := val_ok hr .bad x
  split at he
  · rename_i bi hb
    rw [hb] at hv
    replace hv := hv.resolve_left (by simp)
    obtain ⟨κ0, hv⟩ := hv
    simp only [RV] at hv
    obtain ⟨_, l, hμ, _, hx⟩ := hv
    split at he
    · rename_i s pos hH
      have hobj := h.obj bi l _ hμ hH
      simp only [ObjOk] at hobj
      cases hp : decide (pos < s.size) with
      | true =>
        rw [hp] at he
        simp only [] at he
        have hpos : pos < s.size := by simpa using hp
        obtain ⟨h1, h2⟩ := HOk.put h (o' := .iter s (pos + (Utf8.decode s pos).2)) (obj := .stringIter s (pos + (Utf8.decode s pos).2)) hμ hH rfl rfl (by
          simp only [ObjOk]
          rw [putBlk_heap, if_pos ⟨rfl, lt_of_block hobj⟩])
        refine wp_value (x := .tuple #[.bool true, .int .i64 pos, .int .i32 (Utf8.decode s pos).1]) ?_ (hn _ _ _ _ _ he (.inr ⟨.bad, ?_⟩) h1 h2)
        · simp only [execOp, ho, Instr.next, hx]
          simp only [run_bind, getObj, setObj, Sem.run, hobj, run_pure, hpos, if_true, goInt, putBlk]
        · simp only [RV]
          refine ⟨trivial, _, rfl, ?_⟩
          simp [RVt, RV, Rep]
      | false =>
        rw [hp] at he
        simp only [] at he
        have hpos : ¬ pos < s.size := by simpa using hp
        refine wp_value (x := .tuple #[.bool false]) (w' := w) ?_ (hn.same h he (.inr ⟨.bad, ?_⟩))
        · simp only [execOp, ho, Instr.next, hx]
          simp only [run_bind, getObj, Sem.run, hobj, run_pure, hpos, if_false]
        · simp only [RV]
          refine ⟨trivial, _, rfl, ?_⟩
          simp [RVt, RV, Rep]
    · simp at he
  · simp at he
end ops
end
end Go.AM
namespace Go.AM
open Go Go.RowKit
section
variable {P : Program} {ty : Nat → K} {cd : Cd} {X : List Nat} {B0 : Nat} {w0 : World}
section ops
variable {R : Type} {E : Env} {hint : Hint} {μ : List Loc} {H : List AObj} {w : World} {regs : List V} {a : Act} {o : Oper} {k : V → Eff → Option R} {r : R} {next : Act → World → Prop} {Q : Exit → Act → World → Prop}
variable (T : TyOk P E.ty) (h : HOk E.ty P.cellsOf E.rnd X B0 w0 μ H w) (hr : Regs P E.ty (M_ X μ H w) μ regs a.tmps) (hn : Nexts P E.ty E.rnd X B0 w0 μ H w a o.dst k r next)
include T h hr hn
theorem op_clear {c : Call} (ho : o.op = .call c) (hc : c.callee = .builtin .clear) (hl : c.args.toList.length = c.argTypes.toList.length) (he : evClear E H (vals regs E.ty c.args.toList c.argTypes.toList) c.argTypes.toList k = some r) : o.wp P a w next Q := by
  unfold evClear at he
  split at he
  · rename_i b off len t hvs hts
    obtain ⟨ao, hargs, hb⟩ := vals_one hl hvs hts
    have hrs := val_ok hr (E.ty t) ao
    split at he
    · rename_i e hk
      have hne := under_slice_ne T hk
      split at he
      · rename_i e' nn ds hH
        split at he
        · rename_i hee
          subst hee
          have ea : c.argTypes = #[t] := by apply Array.toList_inj.1; rw [hts]
          have eb : c.args.map a.eval = #[a.eval ao] := by apply Array.toList_inj.1; simp [hargs]
          rw [← hb] at hrs
          replace hrs := hrs.resolve_left (by simp)
          obtain ⟨κ0, hrs⟩ := hrs
          simp only [RV] at hrs
          obtain ⟨l, n, e0, hμ, hl', hκ0, hlen', hx⟩ := hrs
          obtain ⟨rfl, rfl⟩ := row_loc h hH hμ hl'
          have hfin : ∀ w' : World, (Builtin.clear_ c.argTypes o.type (c.args.map a.eval)).run P w = .ok (.tuple #[]) w' → (execOp a.eval o).run P w = .ok (.value (.tuple #[])) w' := by
            intro w' hrun
            obtain ⟨cs', hex⟩ := run_builtin (a := a) ho hc
            rw [hex]
            simp only [Go.builtin, run_bind, hrun, run_pure]
          have hnil : ∀ {base : Option Addr} {cap : Nat}, a.eval ao = .slice base 0 cap → len = 0 → o.wp P a w next Q := by
            intro base cap hs hy
            subst hy
            have hset : H.set b (.row e0 true nn (ds.take off ++ List.replicate 0 (zero E.ty (E.ty e0)) ++ ds.drop (off + 0))) = H := by
              rw [List.replicate_zero, List.append_nil, Nat.add_zero, List.take_append_drop]
              exact List.set_getElem?_self_of hH
            refine wp_value (hfin w ?_) (hn _ _ μ w _ he (.inl rfl) ?_ ?_)
            · rw [ea, eb, hs]
              simp only [Builtin.clear_]
              cases base <;> simp [run_bind, run_underlying T (under_slice T hk), run_pure]
            · simp only [Eff.app]; rw [hset]; exact h
            · simp only [Eff.app]; rw [hset]; exact Fut.refl h
          rcases hx with ⟨hvirt, hl0, ad, hs, ha⟩ | ⟨hvirt, cap, hs, hlc, hoc, hreach⟩ | ⟨hvirt, hl0, hreach, ad, hs⟩
          · exact hnil hs hl0
          · by_cases hl0 : len = 0
            · exact hnil (hl0 ▸ hs) hl0
            · obtain ⟨z, hz, hzr⟩ := run_zeroValue T hne w
              have hys : Reps E.ty (M_ X μ H w) (List.replicate len (zero E.ty (E.ty e0))) (List.replicate (List.replicate len (zero E.ty (E.ty e0))).length (E.ty e0)) (List.replicate len z.cells.toList).flatten := by
                rw [List.length_replicate]; exact reps_zero (hzr _) len
              obtain ⟨w', hst, g1, g2⟩ := splice_ok T h hμ hH hvirt (p := off) hys (by simpa using hlen')
              rw [List.length_replicate] at g1 g2
              refine wp_value (hfin w' ?_) (hn _ _ _ _ _ he (.inl rfl) g1 g2)
              rw [ea, eb, hs]
              simp only [Builtin.clear_]
              obtain ⟨n, rfl⟩ : ∃ n, len = n + 1 := ⟨len - 1, by omega⟩
              have hzc : (Builtin.zeroCells z.cells (n + 1)).toList = (List.replicate (n + 1) z.cells.toList).flatten := by
                rw [← zero_cells]; simp [Builtin.zeroCells]
              simp [run_bind, run_underlying T (under_slice T hk), hz, hzc, hst, run_pure]
          · exact hnil hs hl0
        · simp at he
      · simp at he
    · simp at he
  · simp at he
theorem op_copy {c : Call} (ho : o.op = .call c) (hc : c.callee = .builtin .copy) (hl : c.args.toList.length = c.argTypes.toList.length) (he : evCopy E H (vals regs E.ty c.args.toList c.argTypes.toList) c.argTypes.toList k = some r) : o.wp P a w next Q := by
  unfold evCopy at he
  split at he
  · rename_i b off len x t u hvs hts
    obtain ⟨ao, bo, hargs, hb, rfl⟩ := vals_two hl hvs hts
    have hrs := val_ok hr (E.ty t) ao
    split at he
    · rename_i e hk
      have hne := under_slice_ne T hk
      split at he
      · rename_i ys hlit
        have hrx := val_ok hr (E.ty u) bo
        obtain ⟨hlen, ⟨cs, hsrc, hys⟩, hκu⟩ := src_ok' T h hrx hlit
        split at he
        · rename_i e' nn ds hH
          split at he
          · rename_i hee
            subst hee
            have ea : c.argTypes = #[t, u] := by apply Array.toList_inj.1; rw [hts]
            have eb : c.args.map a.eval = #[a.eval ao, a.eval bo] := by apply Array.toList_inj.1; simp [hargs]
            rw [← hb] at hrs
            replace hrs := hrs.resolve_left (by simp)
            obtain ⟨κ0, hrs⟩ := hrs
            simp only [RV] at hrs
            obtain ⟨l, n, e0, hμ, hl', hκ0, hlen', hx⟩ := hrs
            obtain ⟨rfl, rfl⟩ := row_loc h hH hμ hl'
            have hcsl : cs.length = ys.length * P.cellsOf e0 := by
              have := (Reps.size T.szOk _ _ _ hys).2 (List.replicate ys.length e0) (by simp)
              simpa using this
            have hfin : ∀ (m : Nat) (w' : World), (Builtin.copy_ c.argTypes o.type (c.args.map a.eval)).run P w = .ok (.int .i64 m) w' → (execOp a.eval o).run P w = .ok (.value (.int .i64 m)) w' := by
              intro m w' hrun
              obtain ⟨cs', hex⟩ := run_builtin (a := a) ho hc
              rw [hex]
              simp only [Go.builtin, run_bind, hrun, run_pure]
            have hrunc : ∀ {base : Option Addr} {cap : Nat} {w' : World}, a.eval ao = .slice base len cap → (match base with | some ad => (storeCells ad (cs.take (min ys.length len * P.cellsOf e0))).run P w = .ok () w' | none => w = w') →
                (Builtin.copy_ c.argTypes o.type (c.args.map a.eval)).run P w = .ok (.int .i64 (min ys.length len : Nat)) w' := by
              intro base cap w' hs hst
              rw [ea, eb, hs]
              have h1 := hsrc w (fun _ => rfl) (min ys.length len) (Nat.min_le_left _ _)
              cases base with
              | none =>
                simp only at hst
                subst hst
                simp [Builtin.copy_, run_bind, run_underlying T (under_slice T hk), hlen, run_sizeOf T hne, h1, run_pure, goInt]
              | some ad =>
                simp only at hst
                simp [Builtin.copy_, run_bind, run_underlying T (under_slice T hk), hlen, run_sizeOf T hne, h1, hst, run_pure, goInt]
            have hnil : ∀ {base : Option Addr} {cap : Nat}, a.eval ao = .slice base 0 cap → len = 0 → o.wp P a w next Q := by
              intro base cap hs hy
              subst hy
              have hset : H.set b (.row e0 true nn (ds.take off ++ ys.take (min ys.length 0) ++ ds.drop (off + min ys.length 0))) = H := by
                rw [Nat.min_zero, List.take_zero, List.append_nil, Nat.add_zero, List.take_append_drop]
                exact List.set_getElem?_self_of hH
              refine wp_value (hfin _ w (hrunc hs ?_)) (hn _ _ μ w _ he (.inr ⟨.int .i64, by simp [RV, Rep]⟩) ?_ ?_)
              · cases base <;> simp [storeCells, run_pure]
              · simp only [Eff.app]; rw [hset]; exact h
              · simp only [Eff.app]; rw [hset]; exact Fut.refl h
            rcases hx with ⟨hvirt, hl0, ad, hs, ha⟩ | ⟨hvirt, cap, hs, hlc, hoc, hreach⟩ | ⟨hvirt, hl0, hreach, ad, hs⟩
            · exact hnil hs hl0
            · have hm : min ys.length len ≤ ys.length := Nat.min_le_left _ _
              have hm2 : min ys.length len ≤ len := Nat.min_le_right _ _
              have hty : (ys.take (min ys.length len)).length = min ys.length len := by simp
              obtain ⟨c1, cm, c2, e1, l1, l2, r1, r0, r2⟩ := Reps.drop_take T.szOk hne hys (i := 0) (n := min ys.length len) (by omega)
              have hc10 : c1 = [] := List.eq_nil_of_length_eq_zero (by simpa using l1)
              subst hc10
              have hcm : cm = cs.take (min ys.length len * P.cellsOf e0) := by
                rw [e1, ← l2]; simp
              have hys' : Reps E.ty (M_ X μ H w) (ys.take (min ys.length len)) (List.replicate (ys.take (min ys.length len)).length (E.ty e0)) (cs.take (min ys.length len * P.cellsOf e0)) := by
                rw [hty, ← hcm]; simpa using r1
              obtain ⟨w', hst, g1, g2⟩ := splice_ok T h hμ hH hvirt (p := off) hys' (by rw [hty]; omega)
              rw [hty] at g1 g2
              exact wp_value (hfin _ w' (hrunc hs hst)) (hn _ _ _ _ _ he (.inr ⟨.int .i64, by simp [RV, Rep]⟩) g1 g2)
            · exact hnil hs hl0
          · simp at he
        · simp at he
      · simp at he
    · simp at he
  · simp at he
end ops
end
end Go.AM
namespace Go.AM
open Go Go.RowKit
section
variable {P : Program} {ty : Nat → K} {cd : Cd} {X : List Nat} {B0 : Nat} {w0 : World}
theorem Entries.length {M : Mem} {κa κe : K} : ∀ {n : Nat} {es : List (D × D)} {ms : List MapEntry}, Entries ty M κa κe n es ms → ms.length = es.length
  | _, [], _, h => by simp only [Entries] at h; subst h; rfl
  | n, x :: es, ms, h => by
    simp only [Entries] at h
    obtain ⟨m, rest, rfl, _, _, _, h⟩ := h
    simp [Entries.length h]
theorem Entries.get {M : Mem} {κa κe : K} : ∀ {n : Nat} {es : List (D × D)} {ms : List MapEntry}, Entries ty M κa κe n es ms → ∀ {i : Nat} {x : D × D}, es[i]? = some x → ∃ m, ms[i]? = some m ∧ Rep ty M x.1 κa m.key ∧ Rep ty M x.2 κe m.val ∧ m.born = n + i
  | _, [], _, h, i, x, hx => by simp at hx
  | n, y :: es, ms, h, i, x, hx => by
    simp only [Entries] at h
    obtain ⟨m, rest, rfl, h1, h2, h3, h4⟩ := h
    cases i with
    | zero => simp only [List.getElem?_cons_zero, Option.some.injEq] at hx; subst hx; exact ⟨m, rfl, h1, h2, by simpa using h3⟩
    | succ i =>
      obtain ⟨m', g1, g2, g3, g4⟩ := Entries.get h4 (i := i) (by simpa using hx)
      exact ⟨m', by simpa using g1, g2, g3, by omega⟩
theorem Entries.append {M : Mem} {κa κe : K} {x : D × D} {m : MapEntry} (h1 : Rep ty M x.1 κa m.key) (h2 : Rep ty M x.2 κe m.val) : ∀ {n : Nat} {es : List (D × D)} {ms : List MapEntry}, Entries ty M κa κe n es ms → m.born = n + es.length → Entries ty M κa κe n (es ++ [x]) (ms ++ [m])
  | n, [], ms, h, hb => by
    simp only [Entries] at h; subst h
    simp only [List.nil_append, Entries]
    exact ⟨m, [], rfl, h1, h2, by simpa using hb, rfl⟩
  | n, y :: es, ms, h, hb => by
    simp only [Entries] at h
    obtain ⟨m', rest, rfl, g1, g2, g3, g4⟩ := h
    simp only [List.cons_append, Entries]
    exact ⟨m', _, rfl, g1, g2, g3, Entries.append h1 h2 g4 (by simp at hb; omega)⟩
theorem Entries.set {M : Mem} {κa κe : K} {x : D × D} {f : MapEntry → MapEntry} : ∀ {n : Nat} {es : List (D × D)} {ms : List MapEntry} {i : Nat}, Entries ty M κa κe n es ms → (∀ m, ms[i]? = some m → Rep ty M x.1 κa (f m).key ∧ Rep ty M x.2 κe (f m).val ∧ (f m).born = m.born) → Entries ty M κa κe n (es.set i x) (ms.modify i f)
  | n, [], ms, i, h, _ => by simp only [Entries] at h; subst h; simp [Entries]
  | n, y :: es, ms, i, h, hf => by
    simp only [Entries] at h
    obtain ⟨m', rest, rfl, g1, g2, g3, g4⟩ := h
    cases i with
    | zero =>
      obtain ⟨k1, k2, k3⟩ := hf m' (by simp)
      simp only [List.set_cons_zero, List.modify_zero_cons, Entries]
      exact ⟨f m', rest, rfl, k1, k2, by rw [k3]; exact g3, g4⟩
    | succ i =>
      simp only [List.set_cons_succ, List.modify_succ_cons, Entries]
      exact ⟨m', _, rfl, g1, g2, g3, Entries.set g4 (fun m hm => hf m (by simpa using hm))⟩
theorem ba_eq {a b : ByteArray} (h : (a == b) = true) : a = b := by
  cases a; cases b
  rename_i x y
  have : (x == y) = true := h
  rw [eq_of_beq this]
theorem ba_refl (a : ByteArray) : (a == a) = true := by
  cases a
  rename_i x
  show (x == x) = true
  simp
theorem sameNow_ok {M M' : Mem} {κ : K} {x y : D} {u v : Value} {d : TypeDesc} (hk : keyK κ = true) (hd : match κ with | .int k => d = .int k | .str => d = .string | _ => True) (hx : Rep ty M x κ u) (hy : Rep ty M' y κ v) :
    Instr.sameNow d u v = some (keyEq κ x y) ∧ (keyEq κ x y = true → u = v) := by
  cases κ with
  | int k =>
    simp only at hd
    subst hd
    have h1 := rep_int hx
    have h2 := rep_int hy
    subst h1 h2
    simp only [Instr.sameNow, keyEq]
    refine ⟨by simp, fun h => ?_⟩
    have : x.i = y.i := by simpa using h
    rw [this]
  | str =>
    simp only at hd
    subst hd
    have h1 := rep_str hx
    have h2 := rep_str hy
    subst h1 h2
    simp only [Instr.sameNow, keyEq]
    exact ⟨trivial, fun h => by rw [ba_eq h]⟩
  | _ => simp [keyK] at hk
theorem findNow_ok {M M' : Mem} {κ κe : K} {x : D} {u : Value} {d : TypeDesc} (hk : keyK κ = true) (hd : match κ with | .int k => d = .int k | .str => d = .string | _ => True) (hx : Rep ty M x κ u) :
    ∀ {n : Nat} {es : List (D × D)} {ms : List MapEntry} (i : Nat), Entries ty M' κ κe n es ms → ∀ q, PlaceOk κ x es q →
      (match q with
        | none => Instr.findNow d u ms i = some none
        | some j => ∃ m, ms[j]? = some m ∧ Instr.findNow d u ms i = some (some (i + j, m.val)) ∧ m.key = u)
  | n, [], ms, i, h, q, hq => by
    simp only [Entries] at h; subst h
    cases q with
    | none => rfl
    | some j => obtain ⟨e, he, _⟩ := hq; simp at he
  | n, e :: es, ms, i, h, q, hq => by
    simp only [Entries] at h
    obtain ⟨m, rest, rfl, g1, g2, g3, g4⟩ := h
    obtain ⟨s1, s2⟩ := sameNow_ok hk hd hx g1
    cases q with
    | none =>
      have he : keyEq κ x e.1 = false := hq e (by simp)
      rw [he] at s1
      simp only [Instr.findNow, s1]
      exact findNow_ok hk hd hx (i + 1) g4 none (fun e' h' => hq e' (by simp [h']))
    | some j =>
      obtain ⟨e', he', hke, hlt⟩ := hq
      cases j with
      | zero =>
        simp only [List.getElem?_cons_zero, Option.some.injEq] at he'
        subst he'
        rw [hke] at s1
        refine ⟨m, by simp, ?_, (s2 hke).symm⟩
        simp only [Instr.findNow, s1, Nat.add_zero]
      | succ j =>
        have he : keyEq κ x e.1 = false := hlt 0 e (by omega) (by simp)
        rw [he] at s1
        obtain ⟨m', k1, k2, k3⟩ := findNow_ok hk hd hx (i + 1) g4 (some j) ⟨e', by simpa using he', hke, fun j' e'' hj h'' => hlt (j' + 1) e'' (by omega) (by simpa using h'')⟩
        refine ⟨m', by simpa using k1, ?_, k3⟩
        simp only [Instr.findNow, s1]
        rw [k2]
        congr 2
        simp; omega
theorem run_checkKey {t : Nat} {κ : K} (T : TyOk P ty) (ht : ty t = κ) (hk : keyK κ = true) {b : Bool} {n : Nat} {v : Value} (w : World) : (Instr.checkKey b (n + 1) t v).run P w = .ok () w := by
  cases κ with
  | int k => simp only [Instr.checkKey, run_bind, run_underlying T (under_int T ht), run_pure]
  | str => simp only [Instr.checkKey, run_bind, run_underlying T (under_str T ht), run_pure]
  | _ => simp [keyK] at hk
theorem run_findKey {t : Nat} {κ κe : K} (T : TyOk P ty) (ht : ty t = κ) (hk : keyK κ = true) {M M' : Mem} {x : D} {u : Value} (hx : Rep ty M x κ u) {es : List (D × D)} {ms : List MapEntry} (he : Entries ty M' κ κe 0 es ms) {q : Option Nat} (hq : PlaceOk κ x es q) (w : World) :
    match q with
    | none => (Instr.findKey t u ms).run P w = .ok none w
    | some j => ∃ m, ms[j]? = some m ∧ (Instr.findKey t u ms).run P w = .ok (some (j, m.val)) w ∧ m.key = u := by
  cases κ with
  | int k =>
    have hd := under_int T ht
    have h := findNow_ok (d := .int k) hk rfl hx 0 he q hq
    cases q with
    | none => simp only [Instr.findKey, run_bind, run_underlying T hd, h, run_pure]
    | some j =>
      obtain ⟨m, h1, h2, h3⟩ := h
      exact ⟨m, h1, by simp only [Instr.findKey, run_bind, run_underlying T hd, h2, run_pure, Nat.zero_add], h3⟩
  | str =>
    have hd := under_str T ht
    have h := findNow_ok (d := .string) hk rfl hx 0 he q hq
    cases q with
    | none => simp only [Instr.findKey, run_bind, run_underlying T hd, h, run_pure]
    | some j =>
      obtain ⟨m, h1, h2, h3⟩ := h
      exact ⟨m, h1, by simp only [Instr.findKey, run_bind, run_underlying T hd, h2, run_pure, Nat.zero_add], h3⟩
  | _ => simp [keyK] at hk
variable {R : Type} {E : Env} {hint : Hint} {μ : List Loc} {H : List AObj} {w : World} {regs : List V} {a : Act} {o : Oper} {k : V → Eff → Option R} {r : R} {next : Act → World → Prop} {Q : Exit → Act → World → Prop}
variable (T : TyOk P E.ty) (h : HOk E.ty P.cellsOf E.rnd X B0 w0 μ H w) (hr : Regs P E.ty (M_ X μ H w) μ regs a.tmps) (hn : Nexts P E.ty E.rnd X B0 w0 μ H w a o.dst k r next)
include T h hr hn
theorem op_makeMap {t : Nat} {x : Option Operand} (ho : o.op = .makeMap t x) (he : evOp E hint H regs o.type (.makeMap t x) k = some r) : o.wp P a w next Q := by
  simp only [evOp] at he
  split at he
  · rename_i ka e hk
    obtain ⟨_, hka, hke⟩ := under_map T hk
    obtain ⟨h1, h2⟩ := HOk.newAt h (l := ⟨w.heap.size, 0, 0, .map ka e, false, false⟩) (o := .map ka e []) (below_push (o := .map #[] 0)) (fun b hb => by simp [usesB] at hb; omega) (fun M' hM => by
      simp only [ObjOk]
      exact ⟨trivial, hka, hke, #[], by simp, by simp [Entries]⟩)
    refine wp_value (x := .map (some w.heap.size)) ?_ (hn _ _ _ _ _ he (.inr ⟨.map ka e, ?_⟩) h1 h2)
    · simp only [execOp, ho, Instr.makeMap]
      simp only [run_bind, run_pure, newObj, Sem.run]
      simp [Sem.run]
    · simp only [RV]
      refine ⟨⟨w.heap.size, 0, 0, .map ka e, false, false⟩, ka, e, ?_, rfl, rfl, rfl⟩
      rw [← h.len]; simp
  · simp at he
theorem op_insert {t : Nat} {m key v : Operand} (ho : o.op = .insert t m key v ∨ o.op = .mapUpdate t m key v) (he : evInsert E H regs t m key v k = some r) : o.wp P a w next Q := by
  unfold evInsert at he
  split at he
  · rename_i ka e b hk hm
    split at he
    · rename_i ka' e' es hH
      split at he
      · rename_i κ x κ' y hx hy
        split at he
        · rename_i hc
          obtain ⟨rfl, rfl, rfl, rfl, hkk⟩ := hc
          obtain ⟨q, hq, hpl⟩ := assocK_ok [] es (by simp) he
          simp only [List.nil_append] at hpl
          have hv := val_ok hr (E.ty t) m
          rw [hm] at hv
          replace hv := hv.resolve_left (by simp)
          obtain ⟨κ0, hv⟩ := hv
          simp only [RV] at hv
          obtain ⟨l, a1, e1, hμ, hl, _, hmv⟩ := hv
          have hobj := h.obj b l _ hμ hH
          simp only [ObjOk] at hobj
          obtain ⟨_, hka, hke, ms, hblk, hes⟩ := hobj
          have hxr := val_ok hr (E.ty ka') key
          rw [hx] at hxr
          replace hxr := hxr.resolve_left (by simp)
          obtain ⟨κ1, hxr⟩ := hxr
          simp only [RV] at hxr
          obtain ⟨rfl, hxr⟩ := hxr
          have hyr := val_ok hr (E.ty e') v
          rw [hy] at hyr
          replace hyr := hyr.resolve_left (by simp)
          obtain ⟨κ2, hyr⟩ := hyr
          simp only [RV] at hyr
          obtain ⟨rfl, hyr⟩ := hyr
          obtain ⟨hu, _, _⟩ := under_map T hk
          have hmsl := hes.length
          have hlt := lt_of_block hblk
          have hfind := run_findKey T rfl hkk hxr hes hpl w
          have hrun : ∃ ms' c', (Instr.mapUpdate t (.map (some l.blk)) (a.eval key) (a.eval v)).run P w = .ok () (putBlk w l.blk (.map ms' c')) ∧ c' = (entrySet es x y q).length ∧ Entries E.ty (memOf w (X ++ owned μ H)) (E.ty ka') (E.ty e') 0 (entrySet es x y q) ms'.toList := by
            cases q with
            | none =>
              refine ⟨ms.push { key := a.eval key, val := a.eval v, born := es.length }, es.length + 1, ?_, by simp [entrySet], ?_⟩
              · simp only [Instr.mapUpdate, run_bind, run_underlying T hu, getObj, setObj, Sem.run, hblk, run_checkKey T rfl hkk, hfind, run_pure, putBlk]
              · simp only [entrySet, Array.toList_push]
                exact Entries.append hxr hyr hes (by simp)
            | some j =>
              obtain ⟨mm, g1, g2, g3⟩ := hfind
              obtain ⟨en, hen, _, _⟩ := hpl
              have hj : j < es.length := (List.getElem?_eq_some_iff.1 hen).1
              have hmj : ms[j]? = some mm := by rw [← Array.getElem?_toList]; exact g1
              refine ⟨ms.modify j fun e => { e with key := a.eval key, val := a.eval v }, es.length, ?_, by simp [entrySet], ?_⟩
              · simp only [Instr.mapUpdate, run_bind, run_underlying T hu, getObj, setObj, Sem.run, hblk, run_checkKey T rfl hkk, g2, run_pure, putBlk]
                have hstay : (Instr.keyThatStays (((ms[j]?).map (·.key)).getD (a.eval key)) (a.eval key)).run P w = .ok (a.eval key) w := by
                  rw [hmj]
                  simp only [Option.map_some, Option.getD_some, g3, Instr.keyThatStays]
                  have hsame : Instr.sameBits 10000 (a.eval key) (a.eval key) = true := by
                    cases hκ : E.ty ka' with
                    | int kk => rw [hκ] at hxr; rw [rep_int hxr]; simp [Instr.sameBits]
                    | str => rw [hκ] at hxr; rw [rep_str hxr]; simp only [Instr.sameBits]; exact ba_refl _
                    | _ => rw [hκ] at hkk; simp [keyK] at hkk
                  rw [if_pos hsame]
                  exact run_pure ..
                simp only [hstay, run_bind, run_pure, getObj, setObj, Sem.run, hblk]
              · simp only [entrySet, Array.toList_modify]
                exact Entries.set hes (fun m0 hm0 => ⟨hxr, hyr, rfl⟩)
          obtain ⟨ms', c', hr1, hc', hes'⟩ := hrun
          obtain ⟨h1, h2⟩ := HOk.put h (o' := .map ka' e' (entrySet es x y q)) (obj := .map ms' c') hμ hH rfl rfl (by
            simp only [ObjOk]
            exact ⟨by rw [hl]; first | rfl | (have := h.obj b l _ hμ hH; simp only [ObjOk] at this; rw [← hl]; exact this.1), hka, hke, ms', by rw [putBlk_heap, if_pos ⟨rfl, hlt⟩, hc'], hes'⟩)
          refine wp_skip' (w' := putBlk w l.blk (.map ms' c')) ?_ (hn _ _ _ _ _ hq (.inl rfl) h1 h2)
          rcases ho with ho | ho
          · simp only [execOp, ho, hmv, run_bind, hr1, run_pure]
          · simp only [execOp, ho, hmv, run_bind, hr1, run_pure]
        · simp at he
      · simp at he
    · simp at he
  · simp at he
theorem op_lookup {t : Nat} {m key : Operand} {ok : Bool} (ho : o.op = .lookup t m key ok) (he : evLookup E H regs t m key ok k = some r) : o.wp P a w next Q := by
  unfold evLookup at he
  split at he
  · rename_i ka e b hk hm
    split at he
    · rename_i ka' e' es hH
      split at he
      · rename_i κ x hx
        split at he
        · rename_i hc
          obtain ⟨rfl, rfl, rfl, hkk⟩ := hc
          obtain ⟨q, hq, hpl⟩ := assocK_ok [] es (by simp) he
          simp only [List.nil_append] at hpl
          have hv := val_ok hr (E.ty t) m
          rw [hm] at hv
          replace hv := hv.resolve_left (by simp)
          obtain ⟨κ0, hv⟩ := hv
          simp only [RV] at hv
          obtain ⟨l, a1, e1, hμ, hl, _, hmv⟩ := hv
          have hobj := h.obj b l _ hμ hH
          simp only [ObjOk] at hobj
          obtain ⟨_, hka, hke, ms, hblk, hes⟩ := hobj
          have hxr := val_ok hr (E.ty ka') key
          rw [hx] at hxr
          replace hxr := hxr.resolve_left (by simp)
          obtain ⟨κ1, hxr⟩ := hxr
          simp only [RV] at hxr
          obtain ⟨rfl, hxr⟩ := hxr
          obtain ⟨hu, _, _⟩ := under_map T hk
          have hfind := run_findKey T rfl hkk hxr hes hpl w
          obtain ⟨z, hz, hzr⟩ := run_zeroValue T hke w
          have hrun : ∃ y, (Instr.lookup t (.map (some l.blk)) (a.eval key) ok).run P w = .ok (if ok = true then .tuple #[y, .bool q.isSome] else y) w ∧ Rep E.ty (M_ X μ H w) (entryVal es (zero E.ty (E.ty e')) q) (E.ty e') y := by
            cases q with
            | none =>
              refine ⟨z, ?_, hzr _⟩
              simp only [Instr.lookup, run_bind, run_underlying T hu, getObj, Sem.run, hblk, run_checkKey T rfl hkk, hfind, hz, run_pure, Option.isSome_none]
            | some j =>
              obtain ⟨mm, g1, g2, g3⟩ := hfind
              obtain ⟨en, hen, _, _⟩ := hpl
              obtain ⟨m', k1, k2, k3, k4⟩ := hes.get hen
              rw [g1] at k1
              simp only [Option.some.injEq] at k1
              subst k1
              refine ⟨mm.val, ?_, by simp only [entryVal, hen]; exact k3⟩
              simp only [Instr.lookup, run_bind, run_underlying T hu, getObj, Sem.run, hblk, run_checkKey T rfl hkk, g2, run_pure, Option.isSome_some]
          obtain ⟨y, hr1, hyr⟩ := hrun
          cases ok with
          | true =>
            simp only [cond_true] at hq
            refine wp_value (x := .tuple #[y, .bool q.isSome]) (w' := w) ?_ (hn.same h hq (.inr ⟨.bad, ?_⟩))
            · simp only [execOp, ho, hmv, run_bind, hr1, run_pure]; rfl
            · simp only [RV]
              refine ⟨trivial, _, rfl, ?_⟩
              simp only [RVt]
              refine ⟨y, _, rfl, .inr ⟨E.ty e', by simp only [RV]; exact ⟨trivial, hyr⟩⟩, .bool q.isSome, [], rfl, .inr ⟨.bool, by simp [RV, Rep]⟩, rfl⟩
          | false =>
            simp only [cond_false] at hq
            refine wp_value (x := y) (w' := w) ?_ (hn.same h hq (.inr ⟨E.ty e', by simp only [RV]; exact ⟨trivial, hyr⟩⟩))
            simp only [execOp, ho, hmv, run_bind, hr1, run_pure]; rfl
        · simp at he
      · simp at he
    · simp at he
  · simp at he
end
end Go.AM
namespace Go.AM
open Go Go.RowKit
section
variable {P : Program} {ty : Nat → K} {cd : Cd} {X : List Nat} {B0 : Nat} {w0 : World}
theorem keyF_cmp : ∀ (n m : Nat) (κ : K), n ≤ m → K.keyF ty n κ = true → K.cmp ty m κ = true
  | n, m, .bool, _, _ => by cases m <;> rfl
  | n, m, .int _, _, _ => by cases m <;> rfl
  | n, m, .str, _, _ => by cases m <;> rfl
  | n, m, .iface b, _, h => by cases n <;> simp [K.keyF] at h
  | 0, m, .struct fs, _, h => by simp [K.keyF] at h
  | n + 1, 0, .struct fs, h, _ => by omega
  | n + 1, m + 1, .struct fs, hnm, h => by
    simp only [K.keyF, K.cmp, List.all_eq_true] at h ⊢
    exact fun f hf => keyF_cmp n m _ (by omega) (h f hf)
  | 0, m, .array k e, _, h => by simp [K.keyF] at h
  | n + 1, 0, .array k e, h, _ => by omega
  | n + 1, m + 1, .array k e, hnm, h => by
    simp only [K.keyF, K.cmp] at h ⊢
    exact keyF_cmp n m _ (by omega) h
  | n, m, .slice _, _, h => by cases n <;> simp [K.keyF] at h
  | n, m, .map _ _, _, h => by cases n <;> simp [K.keyF] at h
  | n, m, .ptr _, _, h => by cases n <;> simp [K.keyF] at h
  | n, m, .func, _, h => by cases n <;> simp [K.keyF] at h
  | n, m, .bad, _, h => by cases n <;> simp [K.keyF] at h
theorem checkKey_fields (T : TyOk P ty) {M : Mem} {b : Bool} {n m : Nat}
    (ih : ∀ (d : D) (t : Nat) (x : Value) (w : World), Rep ty M d (ty t) x → K.keyF ty n (ty t) = true → (Instr.checkKey b m t x).run P w = .ok () w) (w : World) (X : Array Value) :
    ∀ (fs : List Field) (ds : List D) (px cx : List Value), Reps ty M ds (fs.map fun f => ty f.type) cx → X.toList = px ++ cx →
      (∀ (j : Nat) (f : Field), fs[j]? = some f → f.offset = px.length + ((fs.take j).map fun f => P.cellsOf f.type).sum ∧ f.name ≠ "_" ∧ ty f.type ≠ .bad ∧ K.keyF ty n (ty f.type) = true) →
      (forIn (m := Sem) fs PUnit.unit (fun f _ => do
        if f.name ≠ "_" then
          Instr.checkKey b m f.type (← part f.type X f.offset)
          pure (ForInStep.yield PUnit.unit)
        else pure (ForInStep.yield PUnit.unit))).run P w = .ok PUnit.unit w
  | [], ds, px, cx, _, _, _ => by simp [run_pure]
  | f :: fs, ds, px, cx, ha, hX, hf => by
    cases ds with
    | nil => simp only [List.map_cons, Reps] at ha; simp at ha
    | cons a ds =>
    simp only [List.map_cons, Reps] at ha
    obtain ⟨κ, κs', x, rx, e1, rfl, hx, ha⟩ := ha
    simp only [List.cons.injEq] at e1
    obtain ⟨rfl, rfl⟩ := e1
    obtain ⟨h0, hname, hbad, hkey⟩ := hf 0 f rfl
    simp at h0
    have hpx : (part f.type X f.offset).run P w = .ok x w := by rw [h0]; exact run_part_rep T hx (by rw [hX]; simp; rfl) w
    have hsx := Rep.size T.szOk _ _ _ hx
    rw [List.forIn_cons]
    simp only [run_bind, ne_eq, hname, not_false_eq_true, if_true, hpx, ih a f.type x w hx hkey, run_pure]
    refine checkKey_fields T ih w X fs ds (px ++ x.cells.toList) rx ha (by rw [hX]; simp) (fun j f' hj => ?_)
    obtain ⟨g1, g2, g3, g4⟩ := hf (j + 1) f' (by simpa using hj)
    refine ⟨?_, g2, g3, g4⟩
    rw [g1]
    simp [hsx, ← T.szOk _ hbad, Nat.add_assoc]
theorem checkKey_elems (T : TyOk P ty) {M : Mem} {b : Bool} {n m e : Nat} (hkey : K.keyF ty n (ty e) = true)
    (ih : ∀ (d : D) (t : Nat) (x : Value) (w : World), Rep ty M d (ty t) x → K.keyF ty n (ty t) = true → (Instr.checkKey b m t x).run P w = .ok () w) (w : World) (X : Array Value) :
    ∀ (k i : Nat) (ds : List D) (px cx : List Value), Reps ty M ds (List.replicate k (ty e)) cx → X.toList = px ++ cx → px.length = i * P.cellsOf e →
      (forIn (m := Sem) (List.range' i k) PUnit.unit (fun j _ => do
        Instr.checkKey b m e (← part e X (j * (← sizeOf e)))
        pure (ForInStep.yield PUnit.unit))).run P w = .ok PUnit.unit w
  | 0, i, ds, px, cx, _, _, _ => by simp [run_pure]
  | k + 1, i, ds, px, cx, ha, hX, hp => by
    cases ds with
    | nil => simp only [List.replicate_succ, Reps] at ha; simp at ha
    | cons a ds =>
    simp only [List.replicate_succ, Reps] at ha
    obtain ⟨κ, κs', x, rx, e1, rfl, hx, ha⟩ := ha
    simp only [List.cons.injEq] at e1
    obtain ⟨rfl, rfl⟩ := e1
    have hbad : ty e ≠ .bad := fun h => Rep.notBad (h ▸ hx)
    have hpx : (part e X (i * P.cellsOf e)).run P w = .ok x w := by rw [← hp]; exact run_part_rep T hx (by rw [hX]; simp; rfl) w
    have hsx := Rep.size T.szOk _ _ _ hx
    rw [List.range'_succ, List.forIn_cons]
    simp only [run_bind, run_sizeOf T hbad, hpx, ih a e x w hx hkey, run_pure]
    exact checkKey_elems T hkey ih w X k (i + 1) ds (px ++ x.cells.toList) rx ha (by rw [hX]; simp) (by simp [hp, hsx, ← T.szOk _ hbad, Nat.add_mul])
theorem run_checkKeyF (T : TyOk P ty) {M : Mem} {b : Bool} : ∀ (n m : Nat), n < m → ∀ (d : D) (t : Nat) (x : Value) (w : World), Rep ty M d (ty t) x → K.keyF ty n (ty t) = true → (Instr.checkKey b m t x).run P w = .ok () w
  | _, 0, h, _, _, _, _, _, _ => by omega
  | n, m + 1, hnm, d, t, x, w, hx, hk => by
    have ht : ty t ≠ .bad := fun h => Rep.notBad (h ▸ hx)
    have hu := under_of T ht
    cases hκ : ty t with
    | bool => rw [hκ] at hu; simp only [Instr.checkKey, run_bind, run_underlying T hu, run_pure]
    | int k => rw [hκ] at hu; simp only [Instr.checkKey, run_bind, run_underlying T hu, run_pure]
    | str => rw [hκ] at hu; simp only [Instr.checkKey, run_bind, run_underlying T hu, run_pure]
    | struct fs =>
      rw [hκ] at hu hx hk
      cases n with
      | zero => simp [K.keyF] at hk
      | succ n =>
      obtain ⟨ds, cx, rfl, rfl, hx2⟩ := Rep.isAgg hx rfl
      obtain ⟨fields, hu, hfs, hfield⟩ := hu
      have hmap : fs.map ty = fields.toList.map fun f => ty f.type := by rw [← hfs]; simp
      replace hx2 : Reps ty M ds (fs.map ty) cx.toList := hx2
      rw [hmap] at hx2
      simp only [K.keyF, List.all_eq_true] at hk
      have := checkKey_fields T (b := b) (n := n) (m := m) (fun d t x w h1 h2 => run_checkKeyF T n m (by omega) d t x w h1 h2) w cx fields.toList ds [] cx.toList hx2 rfl (by
        intro j f hj
        obtain ⟨g1, g2, g3, g4⟩ := hfield j f (by simpa using hj)
        refine ⟨?_, g3, g4, hk _ ?_⟩
        · rw [g1]; simp [kOff, ← hfs, List.map_take, Function.comp_def]
        · rw [← hfs]; exact List.mem_map_of_mem (List.mem_of_getElem? hj))
      simp only [Instr.checkKey, run_bind, run_underlying T hu]
      simp at this ⊢
      rw [this]
    | array k e =>
      rw [hκ] at hu hx hk
      cases n with
      | zero => simp [K.keyF] at hk
      | succ n =>
      obtain ⟨ds, cx, rfl, rfl, hx2⟩ := Rep.isAgg hx rfl
      obtain ⟨hu, _, hne⟩ := hu
      replace hx2 : Reps ty M ds (List.replicate k (ty e)) cx.toList := hx2
      simp only [K.keyF] at hk
      have := checkKey_elems T (b := b) (n := n) (m := m) hk (fun d t x w h1 h2 => run_checkKeyF T n m (by omega) d t x w h1 h2) w cx k 0 ds [] cx.toList hx2 rfl (by simp)
      simp only [Instr.checkKey, run_bind, run_underlying T hu]
      simp at this ⊢
      rw [this]
    | slice _ => rw [hκ] at hk; cases n <;> simp [K.keyF] at hk
    | map _ _ => rw [hκ] at hk; cases n <;> simp [K.keyF] at hk
    | iface _ => rw [hκ] at hk; cases n <;> simp [K.keyF] at hk
    | ptr _ => rw [hκ] at hk; cases n <;> simp [K.keyF] at hk
    | func => rw [hκ] at hk; cases n <;> simp [K.keyF] at hk
    | bad => rw [hκ] at hk; cases n <;> simp [K.keyF] at hk
mutual
theorem eqv_val {M M' : Mem} : ∀ (x y : D) (n d : Nat) (κ : K) (u v : Value), K.keyF ty n κ = true → Rep ty M x κ u → Rep ty M' y κ v → D.eqv ty d x y κ = some true → u = v
  | .bool a, y, n, d, κ, u, v, hk, hx, hy, he => by
    simp only [Rep] at hx
    obtain ⟨rfl, rfl⟩ := hx
    cases d <;> cases y <;> simp [D.eqv] at he
    subst he; simp only [Rep] at hy; exact hy.2.symm
  | .int k a, y, n, d, κ, u, v, hk, hx, hy, he => by
    simp only [Rep] at hx
    obtain ⟨rfl, rfl⟩ := hx
    cases d <;> cases y <;> simp [D.eqv] at he
    subst he; simp only [Rep, K.int.injEq] at hy; obtain ⟨rfl, rfl⟩ := hy; rfl
  | .str a, y, n, d, κ, u, v, hk, hx, hy, he => by
    simp only [Rep] at hx
    obtain ⟨rfl, rfl⟩ := hx
    cases d <;> cases y <;> simp [D.eqv] at he
    have he := ba_eq he
    subst he; simp only [Rep] at hy; exact hy.2.symm
  | .agg ds, y, n, d, κ, u, v, hk, hx, hy, he => by
    simp only [Rep] at hx
    obtain ⟨hag, cs, rfl, hx⟩ := hx
    obtain ⟨ds', cs', rfl, rfl, hy2⟩ := Rep.isAgg hy hag
    have key : ∀ κs : List K, κ.kids ty = κs → (∀ κ' ∈ κs, ∃ n', K.keyF ty n' κ' = true) → (∃ d', eqvs (D.eqv ty d') ds ds' κs = some true) → Value.agg cs = Value.agg cs' := by
      rintro κs rfl hks ⟨d', hd⟩
      have := eqv_vals ds ds' d' _ _ _ hks hx hy2 hd
      congr 1
      exact Array.toList_inj.1 this
    cases d with
    | zero => simp [D.eqv] at he
    | succ d =>
    cases κ with
    | struct fs =>
      cases n with
      | zero => simp [K.keyF] at hk
      | succ n =>
      simp only [K.keyF, List.all_eq_true] at hk
      refine key _ rfl (fun κ' h' => ?_) ⟨d, by simpa [D.eqv, K.kids] using he⟩
      simp only [K.kids, List.mem_map] at h'
      obtain ⟨f, hf, rfl⟩ := h'
      exact ⟨n, hk f hf⟩
    | array k e =>
      cases n with
      | zero => simp [K.keyF] at hk
      | succ n =>
      simp only [K.keyF] at hk
      refine key _ rfl (fun κ' h' => ?_) ⟨d, by simpa [D.eqv, K.kids] using he⟩
      simp only [K.kids] at h'
      rw [List.eq_of_mem_replicate h']
      exact ⟨n, hk⟩
    | _ => simp [K.isAgg] at hag
  | .slice nn ds, y, n, d, κ, u, v, hk, hx, hy, he => by
    simp only [Rep] at hx
    obtain ⟨e, _, _, rfl, _⟩ := hx
    cases n <;> simp [K.keyF] at hk
  | .iface t z, y, n, d, κ, u, v, hk, hx, hy, he => by
    simp only [Rep] at hx
    obtain ⟨⟨m, rfl⟩, _⟩ := hx
    cases n <;> simp [K.keyF] at hk
  | .nilIface, y, n, d, κ, u, v, hk, hx, hy, he => by
    simp only [Rep] at hx
    obtain ⟨⟨m, rfl⟩, _⟩ := hx
    cases n <;> simp [K.keyF] at hk
  | .fn f, y, n, d, κ, u, v, hk, hx, hy, he => by
    simp only [Rep] at hx
    obtain ⟨rfl, _⟩ := hx
    cases n <;> simp [K.keyF] at hk
  | .nilFunc, y, n, d, κ, u, v, hk, hx, hy, he => by
    simp only [Rep] at hx
    obtain ⟨rfl, _⟩ := hx
    cases n <;> simp [K.keyF] at hk
  | .nilPtr, y, n, d, κ, u, v, hk, hx, hy, he => by
    simp only [Rep] at hx
    obtain ⟨⟨e, rfl⟩, _⟩ := hx
    cases n <;> simp [K.keyF] at hk
  | .nilMap, y, n, d, κ, u, v, hk, hx, hy, he => by
    simp only [Rep] at hx
    obtain ⟨⟨a, e, rfl⟩, _⟩ := hx
    cases n <;> simp [K.keyF] at hk
  | .tup _, y, n, d, κ, u, v, hk, hx, hy, he => by simp only [Rep] at hx
theorem eqv_vals {M M' : Mem} : ∀ (xs ys : List D) (d : Nat) (κs : List K) (us vs : List Value), (∀ κ ∈ κs, ∃ n, K.keyF ty n κ = true) → Reps ty M xs κs us → Reps ty M' ys κs vs → eqvs (D.eqv ty d) xs ys κs = some true → us = vs
  | [], ys, d, κs, us, vs, hk, hx, hy, he => by
    simp only [Reps] at hx
    obtain ⟨rfl, rfl⟩ := hx
    cases ys with
    | nil => simp only [Reps] at hy; exact hy.2.symm
    | cons y ys => simp [eqvs] at he
  | x :: xs, ys, d, κs, us, vs, hk, hx, hy, he => by
    simp only [Reps] at hx
    obtain ⟨κ, κs', u, rest, rfl, rfl, hx1, hx2⟩ := hx
    cases ys with
    | nil => simp [eqvs] at he
    | cons y ys =>
    simp only [Reps] at hy
    obtain ⟨κ', κs'', v, rest', e1, rfl, hy1, hy2⟩ := hy
    simp only [List.cons.injEq] at e1
    obtain ⟨rfl, rfl⟩ := e1
    simp only [eqvs] at he
    split at he
    · rename_i h1
      obtain ⟨n, hn⟩ := hk κ (by simp)
      rw [eqv_val x y n d κ u v hn hx1 hy1 h1, eqv_vals xs ys d κs' rest rest' (fun κ hκ => hk κ (by simp [hκ])) hx2 hy2 he]
    · simp at he
    · simp at he
end
def plainV : Value → Bool | .bool _ => true | .int _ _ => true | .string _ => true | _ => false
theorem sameBits_plain {n : Nat} {v : Value} (h : plainV v = true) : Instr.sameBits n v v = true := by
  cases v <;> simp [plainV] at h
  · cases n <;> simp [Instr.sameBits]
  · cases n <;> simp [Instr.sameBits]
  · cases n <;> (simp only [Instr.sameBits]; exact ba_refl _)
mutual
theorem cells_plain {M : Mem} : ∀ (x : D) (n : Nat) (κ : K) (u : Value), K.keyF ty n κ = true → Rep ty M x κ u → ∀ c ∈ u.cells.toList, plainV c = true
  | .bool a, n, κ, u, hk, hx => by simp only [Rep] at hx; obtain ⟨rfl, rfl⟩ := hx; simp [Value.cells, plainV]
  | .int k a, n, κ, u, hk, hx => by simp only [Rep] at hx; obtain ⟨rfl, rfl⟩ := hx; simp [Value.cells, plainV]
  | .str a, n, κ, u, hk, hx => by simp only [Rep] at hx; obtain ⟨rfl, rfl⟩ := hx; simp [Value.cells, plainV]
  | .agg ds, n, κ, u, hk, hx => by
    simp only [Rep] at hx
    obtain ⟨hag, cs, rfl, hx⟩ := hx
    simp only [Value.cells]
    refine cells_plains ds _ _ (fun κ' h' => ?_) hx
    cases κ with
    | struct fs =>
      cases n with
      | zero => simp [K.keyF] at hk
      | succ n =>
      simp only [K.keyF, List.all_eq_true] at hk
      simp only [K.kids, List.mem_map] at h'
      obtain ⟨f, hf, rfl⟩ := h'
      exact ⟨n, hk f hf⟩
    | array k e =>
      cases n with
      | zero => simp [K.keyF] at hk
      | succ n =>
      simp only [K.keyF] at hk
      simp only [K.kids] at h'
      rw [List.eq_of_mem_replicate h']
      exact ⟨n, hk⟩
    | _ => simp [K.isAgg] at hag
  | .slice nn ds, n, κ, u, hk, hx => by
    simp only [Rep] at hx
    obtain ⟨e, _, _, rfl, _⟩ := hx
    cases n <;> simp [K.keyF] at hk
  | .iface t z, n, κ, u, hk, hx => by
    simp only [Rep] at hx
    obtain ⟨⟨m, rfl⟩, _⟩ := hx
    cases n <;> simp [K.keyF] at hk
  | .nilIface, n, κ, u, hk, hx => by
    simp only [Rep] at hx
    obtain ⟨⟨m, rfl⟩, _⟩ := hx
    cases n <;> simp [K.keyF] at hk
  | .fn f, n, κ, u, hk, hx => by
    simp only [Rep] at hx
    obtain ⟨rfl, _⟩ := hx
    cases n <;> simp [K.keyF] at hk
  | .nilFunc, n, κ, u, hk, hx => by
    simp only [Rep] at hx
    obtain ⟨rfl, _⟩ := hx
    cases n <;> simp [K.keyF] at hk
  | .nilPtr, n, κ, u, hk, hx => by
    simp only [Rep] at hx
    obtain ⟨⟨e, rfl⟩, _⟩ := hx
    cases n <;> simp [K.keyF] at hk
  | .nilMap, n, κ, u, hk, hx => by
    simp only [Rep] at hx
    obtain ⟨⟨a, e, rfl⟩, _⟩ := hx
    cases n <;> simp [K.keyF] at hk
  | .tup _, n, κ, u, hk, hx => by simp only [Rep] at hx
theorem cells_plains {M : Mem} : ∀ (xs : List D) (κs : List K) (us : List Value), (∀ κ ∈ κs, ∃ n, K.keyF ty n κ = true) → Reps ty M xs κs us → ∀ c ∈ us, plainV c = true
  | [], κs, us, hk, hx => by simp only [Reps] at hx; obtain ⟨rfl, rfl⟩ := hx; simp
  | x :: xs, κs, us, hk, hx => by
    simp only [Reps] at hx
    obtain ⟨κ, κs', u, rest, rfl, rfl, hx1, hx2⟩ := hx
    obtain ⟨n, hn⟩ := hk κ (by simp)
    intro c hc
    rcases List.mem_append.1 hc with hc | hc
    · exact cells_plain x n κ u hn hx1 c hc
    · exact cells_plains xs κs' rest (fun κ hκ => hk κ (by simp [hκ])) hx2 c hc
end
theorem sameBits_key {M : Mem} {x : D} {n : Nat} {κ : K} {u : Value} (hk : K.keyF ty n κ = true) (hx : Rep ty M x κ u) : Instr.sameBits 10000 u u = true := by
  have hc := cells_plain x n κ u hk hx
  cases x with
  | agg ds =>
    simp only [Rep] at hx
    obtain ⟨_, cs, rfl, _⟩ := hx
    simp only [Value.cells] at hc
    rw [show (10000 : Nat) = 9999 + 1 from rfl, Instr.sameBits]
    simp only [beq_self_eq_true, Bool.true_and, List.all_eq_true]
    rintro ⟨a, b⟩ hab
    have : a = b ∧ a ∈ cs.toList := by
      obtain ⟨i, hi, he⟩ := List.mem_iff_getElem.1 hab
      simp at he
      obtain ⟨rfl, rfl⟩ := he
      exact ⟨rfl, by simp⟩
    obtain ⟨rfl, hm⟩ := this
    exact sameBits_plain (hc a hm)
  | bool b => simp only [Rep] at hx; obtain ⟨_, rfl⟩ := hx; exact sameBits_plain rfl
  | int k b => simp only [Rep] at hx; obtain ⟨_, rfl⟩ := hx; exact sameBits_plain rfl
  | str b => simp only [Rep] at hx; obtain ⟨_, rfl⟩ := hx; exact sameBits_plain rfl
  | slice nn ds => simp only [Rep] at hx; obtain ⟨e, _, _, rfl, _⟩ := hx; cases n <;> simp [K.keyF] at hk
  | iface t z => simp only [Rep] at hx; obtain ⟨⟨m, rfl⟩, _⟩ := hx; cases n <;> simp [K.keyF] at hk
  | nilIface => simp only [Rep] at hx; obtain ⟨⟨m, rfl⟩, _⟩ := hx; cases n <;> simp [K.keyF] at hk
  | fn f => simp only [Rep] at hx; obtain ⟨rfl, _⟩ := hx; cases n <;> simp [K.keyF] at hk
  | nilFunc => simp only [Rep] at hx; obtain ⟨rfl, _⟩ := hx; cases n <;> simp [K.keyF] at hk
  | nilPtr => simp only [Rep] at hx; obtain ⟨⟨e, rfl⟩, _⟩ := hx; cases n <;> simp [K.keyF] at hk
  | nilMap => simp only [Rep] at hx; obtain ⟨⟨a, e, rfl⟩, _⟩ := hx; cases n <;> simp [K.keyF] at hk
  | tup _ => simp only [Rep] at hx
def PlaceU (ty : Nat → K) (κ : K) (x : D) (es : List (D × D)) : Option Nat → Prop
  | none => ∀ e ∈ es, D.eqv ty eqDepth x e.1 κ = some false
  | some j => ∃ e, es[j]? = some e ∧ D.eqv ty eqDepth x e.1 κ = some true ∧ ∀ j' e', j' < j → es[j']? = some e' → D.eqv ty eqDepth x e'.1 κ = some false
theorem assoc_place {κ : K} {x : D} : ∀ {es : List (D × D)} {i : Nat} {q : Option Nat}, assoc ty κ x es i = some q → ∃ q', q = q'.map (· + i) ∧ PlaceU ty κ x es q'
  | [], i, q, h => by simp only [assoc, Option.some.injEq] at h; subst h; exact ⟨none, rfl, by simp [PlaceU]⟩
  | (a, b) :: es, i, q, h => by
    simp only [assoc] at h
    split at h
    · rename_i he
      simp only [Option.some.injEq] at h
      subst h
      exact ⟨some 0, by simp, (a, b), by simp, he, by simp⟩
    · rename_i he
      obtain ⟨q', rfl, hp⟩ := assoc_place h
      refine ⟨q'.map (· + 1), by cases q' <;> simp <;> omega, ?_⟩
      cases q' with
      | none => simpa [PlaceU, he] using hp
      | some j =>
        obtain ⟨e, h1, h2, h3⟩ := hp
        refine ⟨e, by simpa using h1, h2, fun j' e' hj hj' => ?_⟩
        cases j' with
        | zero => simp at hj'; subst hj'; exact he
        | succ j' => exact h3 j' e' (by simp at hj; omega) (by simpa using hj')
    · simp at h
theorem equal_key (T : TyOk P ty) {M : Mem} {t : Nat} {n : Nat} {x y : D} {u v : Value} {r : Bool} (hk : K.keyF ty n (ty t) = true) (hn : n ≤ 20) (hx : Rep ty M x (ty t) u) (hy : Rep ty M y (ty t) v) (he : D.eqv ty eqDepth x y (ty t) = some r) (w : World) :
    (Op.equal t u v).run P w = .ok r w :=
  equalIn_ok T eqDepth _ (by decide) x y t u v r w hx hy (keyF_cmp n 20 _ hn hk) he
def ansU (ms : List MapEntry) (i : Nat) : Option Nat → Option (Nat × Value)
  | none => none
  | some j => match ms[j]? with | some m => some (i + j, m.val) | none => none
theorem asking_ok (T : TyOk P ty) {M : Mem} {t : Nat} {κe : K} {n : Nat} {x : D} {u : Value} (hk : K.keyF ty n (ty t) = true) (hn : n ≤ 20) (hx : Rep ty M x (ty t) u) (w : World) :
    ∀ {b : Nat} {es : List (D × D)} {ms : List MapEntry} (i : Nat) (q : Option Nat), Entries ty M (ty t) κe b es ms → PlaceU ty (ty t) x es q → (Instr.findAsking t u ms i).run P w = .ok (ansU ms i q) w
  | b, [], ms, i, q, h, hq => by
    simp only [Entries] at h; subst h
    cases q with
    | none => rfl
    | some j => obtain ⟨e, he, _⟩ := hq; simp at he
  | b, e :: es, ms, i, q, h, hq => by
    simp only [Entries] at h
    obtain ⟨m, rest, rfl, g1, g2, g3, g4⟩ := h
    cases q with
    | none =>
      have he : D.eqv ty eqDepth x e.1 (ty t) = some false := hq e (by simp)
      have := equal_key T hk hn hx g1 he w
      simp only [Instr.findAsking, run_bind, this, Bool.false_eq_true, if_false]
      exact asking_ok T hk hn hx w (i + 1) none g4 (fun e' h' => hq e' (by simp [h']))
    | some j =>
      obtain ⟨e', he', hke, hlt⟩ := hq
      cases j with
      | zero =>
        simp only [List.getElem?_cons_zero, Option.some.injEq] at he'
        subst he'
        have := equal_key T hk hn hx g1 hke w
        simp only [Instr.findAsking, run_bind, this, if_true, run_pure, ansU, List.getElem?_cons_zero, Nat.add_zero]
      | succ j =>
        have he : D.eqv ty eqDepth x e.1 (ty t) = some false := hlt 0 e (by omega) (by simp)
        have := equal_key T hk hn hx g1 he w
        simp only [Instr.findAsking, run_bind, this, Bool.false_eq_true, if_false]
        rw [asking_ok T hk hn hx w (i + 1) (some j) g4 ⟨e', by simpa using he', hke, fun j' e'' hj h'' => hlt (j' + 1) e'' (by omega) (by simpa using h'')⟩]
        simp only [ansU, List.getElem?_cons_succ]
        congr 1
        cases rest[j]? with
        | none => rfl
        | some m => simp; omega
def descK (κ : K) (d : TypeDesc) : Prop := match κ with | .int k => d = .int k | .str => d = .string | .bool => d = .bool | _ => True
theorem sameNow_U {M M' : Mem} {κ : K} {n : Nat} {x y : D} {u v : Value} {r : Bool} {d : TypeDesc} (hk : K.keyF ty n κ = true) (hd : descK κ d) (hx : Rep ty M x κ u) (hy : Rep ty M' y κ v)
    (he : D.eqv ty eqDepth x y κ = some r) : Instr.sameNow d u v = none ∨ Instr.sameNow d u v = some r := by
  cases κ with
  | bool =>
    simp only [descK] at hd; subst hd
    rw [rep_bool hx, rep_bool hy]
    right
    cases x <;> simp [Rep, K.isAgg] at hx
    cases y <;> simp [Rep, K.isAgg] at hy
    simpa [Instr.sameNow, eqDepth, D.eqv, D.b] using he
  | int k =>
    simp only [descK] at hd; subst hd
    rw [rep_int hx, rep_int hy]
    right
    cases x <;> simp [Rep, K.isAgg] at hx
    cases y <;> simp [Rep, K.isAgg] at hy
    simpa [Instr.sameNow, eqDepth, D.eqv, D.i] using he
  | str =>
    simp only [descK] at hd; subst hd
    rw [rep_str hx, rep_str hy]
    right
    cases x <;> simp [Rep, K.isAgg] at hx
    cases y <;> simp [Rep, K.isAgg] at hy
    simpa [Instr.sameNow, eqDepth, D.eqv, D.s] using he
  | struct fs =>
    obtain ⟨ds, cs, _, rfl, _⟩ := Rep.isAgg hx rfl
    left; cases d <;> rfl
  | array m e =>
    obtain ⟨ds, cs, _, rfl, _⟩ := Rep.isAgg hx rfl
    left; cases d <;> rfl
  | slice _ => cases n <;> simp [K.keyF] at hk
  | map _ _ => cases n <;> simp [K.keyF] at hk
  | iface _ => cases n <;> simp [K.keyF] at hk
  | ptr _ => cases n <;> simp [K.keyF] at hk
  | func => cases n <;> simp [K.keyF] at hk
  | bad => cases n <;> simp [K.keyF] at hk
theorem findNow_U {M M' : Mem} {κ κe : K} {n : Nat} {x : D} {u : Value} {d : TypeDesc} (hk : K.keyF ty n κ = true) (hd : descK κ d) (hx : Rep ty M x κ u) :
    ∀ {b : Nat} {es : List (D × D)} {ms : List MapEntry} (i : Nat) (q : Option Nat), Entries ty M' κ κe b es ms → PlaceU ty κ x es q → Instr.findNow d u ms i = none ∨ Instr.findNow d u ms i = some (ansU ms i q)
  | b, [], ms, i, q, h, hq => by
    simp only [Entries] at h; subst h
    cases q with
    | none => exact .inr rfl
    | some j => obtain ⟨e, he, _⟩ := hq; simp at he
  | b, e :: es, ms, i, q, h, hq => by
    simp only [Entries] at h
    obtain ⟨m, rest, rfl, g1, g2, g3, g4⟩ := h
    simp only [Instr.findNow]
    cases q with
    | none =>
      rcases sameNow_U hk hd hx g1 (hq e (by simp)) with s | s
      · rw [s]; exact .inl rfl
      · rw [s]; exact findNow_U hk hd hx (i + 1) none g4 (fun e' h' => hq e' (by simp [h']))
    | some j =>
      obtain ⟨e', he', hke, hlt⟩ := hq
      cases j with
      | zero =>
        simp only [List.getElem?_cons_zero, Option.some.injEq] at he'
        subst he'
        rcases sameNow_U hk hd hx g1 hke with s | s
        · rw [s]; exact .inl rfl
        · rw [s]; exact .inr (by simp [ansU])
      | succ j =>
        rcases sameNow_U hk hd hx g1 (hlt 0 e (by omega) (by simp)) with s | s
        · rw [s]; exact .inl rfl
        · rw [s]
          rcases findNow_U hk hd hx (i + 1) (some j) g4 ⟨e', by simpa using he', hke, fun j' e'' hj h'' => hlt (j' + 1) e'' (by omega) (by simpa using h'')⟩ with s | s
          · exact .inl s
          · right
            simp only [s]
            simp only [ansU, List.getElem?_cons_succ]
            cases rest[j]? with
            | none => rfl
            | some m => simp; omega
def FindOk (P : Program) (t : Nat) (u : Value) (ms : List MapEntry) (w : World) : Option Nat → Prop
  | none => (Instr.findKey t u ms).run P w = .ok none w
  | some j => ∃ m, ms[j]? = some m ∧ (Instr.findKey t u ms).run P w = .ok (some (j, m.val)) w ∧ m.key = u
theorem run_findKeyU (T : TyOk P ty) {M : Mem} {t : Nat} {κe : K} {n : Nat} {x : D} {u : Value} (hk : K.keyF ty n (ty t) = true) (hn : n ≤ 20) (hx : Rep ty M x (ty t) u) {es : List (D × D)} {ms : List MapEntry} (he : Entries ty M (ty t) κe 0 es ms) {q : Option Nat} (hq : PlaceU ty (ty t) x es q) (w : World) :
    FindOk P t u ms w q := by
  have hb : ty t ≠ .bad := fun h => Rep.notBad (h ▸ hx)
  have hu := under_of T hb
  have hrun : (Instr.findKey t u ms).run P w = .ok (ansU ms 0 q) w := by
    have go : ∀ d, P.underlying t = some d → descK (ty t) d → (Instr.findKey t u ms).run P w = .ok (ansU ms 0 q) w := by
      intro d hd hm
      simp only [Instr.findKey, run_bind, run_underlying T hd]
      rcases findNow_U hk hm hx 0 q he hq with s | s
      · rw [s]; exact asking_ok T hk hn hx w 0 q he hq
      · rw [s]; rfl
    cases hκ : ty t with
    | bool => rw [hκ] at hu; exact go _ hu (by rw [hκ]; rfl)
    | int k => rw [hκ] at hu; exact go _ hu (by rw [hκ]; rfl)
    | str => rw [hκ] at hu; exact go _ hu (by rw [hκ]; rfl)
    | struct fs => rw [hκ] at hu; obtain ⟨fields, hu, _⟩ := hu; exact go _ hu (by rw [hκ]; trivial)
    | array m e => rw [hκ] at hu; exact go _ hu.1 (by rw [hκ]; trivial)
    | slice _ => rw [hκ] at hk; cases n <;> simp [K.keyF] at hk
    | map _ _ => rw [hκ] at hk; cases n <;> simp [K.keyF] at hk
    | iface _ => rw [hκ] at hk; cases n <;> simp [K.keyF] at hk
    | ptr _ => rw [hκ] at hk; cases n <;> simp [K.keyF] at hk
    | func => rw [hκ] at hk; cases n <;> simp [K.keyF] at hk
    | bad => exact absurd hκ hb
  cases q with
  | none => exact hrun
  | some j =>
    obtain ⟨e, h1, h2, _⟩ := hq
    obtain ⟨m, k1, k2, k3, k4⟩ := he.get h1
    refine ⟨m, k1, ?_, ?_⟩
    · rw [hrun]; simp [ansU, k1]
    · exact (eqv_val x e.1 n eqDepth (ty t) u m.key hk hx k2 h2).symm
variable {R : Type} {E : Env} {hint : Hint} {μ : List Loc} {H : List AObj} {w : World} {regs : List V} {a : Act} {o : Oper} {k : V → Eff → Option R} {r : R} {next : Act → World → Prop} {Q : Exit → Act → World → Prop}
variable (T : TyOk P E.ty) (h : HOk E.ty P.cellsOf E.rnd X B0 w0 μ H w) (hr : Regs P E.ty (M_ X μ H w) μ regs a.tmps) (hn : Nexts P E.ty E.rnd X B0 w0 μ H w a o.dst k r next)
include T h hr hn
theorem op_insertU {t : Nat} {m key v : Operand} (ho : o.op = .insert t m key v ∨ o.op = .mapUpdate t m key v) (he : evInsertU E H regs t m key v k = some r) : o.wp P a w next Q := by
  unfold evInsertU at he
  split at he
  · rename_i ka e b hk hm
    split at he
    · rename_i ka' e' es hH
      split at he
      · rename_i κ x κ' y hx hy
        split at he
        · rename_i hc
          obtain ⟨rfl, rfl, rfl, rfl, hkk⟩ := hc
          split at he
          case h_2 => simp at he
          rename_i q0 hq0
          obtain ⟨q, hqq, hpl⟩ := assoc_place hq0
          have hqe : q = q0 := by rw [hqq]; cases q <;> rfl
          clear hqq
          subst hqe
          clear hq0
          have hq := he
          have hv := val_ok hr (E.ty t) m
          rw [hm] at hv
          replace hv := hv.resolve_left (by simp)
          obtain ⟨κ0, hv⟩ := hv
          simp only [RV] at hv
          obtain ⟨l, a1, e1, hμ, hl, _, hmv⟩ := hv
          have hobj := h.obj b l _ hμ hH
          simp only [ObjOk] at hobj
          obtain ⟨_, hka, hke, ms, hblk, hes⟩ := hobj
          have hxr := val_ok hr (E.ty ka') key
          rw [hx] at hxr
          replace hxr := hxr.resolve_left (by simp)
          obtain ⟨κ1, hxr⟩ := hxr
          simp only [RV] at hxr
          obtain ⟨rfl, hxr⟩ := hxr
          have hyr := val_ok hr (E.ty e') v
          rw [hy] at hyr
          replace hyr := hyr.resolve_left (by simp)
          obtain ⟨κ2, hyr⟩ := hyr
          simp only [RV] at hyr
          obtain ⟨rfl, hyr⟩ := hyr
          obtain ⟨hu, _, _⟩ := under_map T hk
          have hmsl := hes.length
          have hlt := lt_of_block hblk
          have hfind : FindOk P _ _ _ _ _ := run_findKeyU T hkk (by omega) hxr hes hpl w
          have hrun : ∃ ms' c', (Instr.mapUpdate t (.map (some l.blk)) (a.eval key) (a.eval v)).run P w = .ok () (putBlk w l.blk (.map ms' c')) ∧ c' = (entrySet es x y q).length ∧ Entries E.ty (memOf w (X ++ owned μ H)) (E.ty ka') (E.ty e') 0 (entrySet es x y q) ms'.toList := by
            cases q with
            | none =>
              simp only [FindOk] at hfind
              refine ⟨ms.push { key := a.eval key, val := a.eval v, born := es.length }, es.length + 1, ?_, by simp [entrySet], ?_⟩
              · simp only [Instr.mapUpdate, run_bind, run_underlying T hu, getObj, setObj, Sem.run, hblk, run_checkKeyF T 12 10000 (by omega) _ _ _ _ hxr hkk, hfind, run_pure, putBlk]
              · simp only [entrySet, Array.toList_push]
                exact Entries.append hxr hyr hes (by simp)
            | some j =>
              obtain ⟨mm, g1, g2, g3⟩ := hfind
              obtain ⟨en, hen, _, _⟩ := hpl
              have hj : j < es.length := (List.getElem?_eq_some_iff.1 hen).1
              have hmj : ms[j]? = some mm := by rw [← Array.getElem?_toList]; exact g1
              refine ⟨ms.modify j fun e => { e with key := a.eval key, val := a.eval v }, es.length, ?_, by simp [entrySet], ?_⟩
              · simp only [Instr.mapUpdate, run_bind, run_underlying T hu, getObj, setObj, Sem.run, hblk, run_checkKeyF T 12 10000 (by omega) _ _ _ _ hxr hkk, g2, run_pure, putBlk]
                have hstay : (Instr.keyThatStays (((ms[j]?).map (·.key)).getD (a.eval key)) (a.eval key)).run P w = .ok (a.eval key) w := by
                  rw [hmj]
                  simp only [Option.map_some, Option.getD_some, g3, Instr.keyThatStays]
                  have hsame : Instr.sameBits 10000 (a.eval key) (a.eval key) = true := sameBits_key hkk hxr
                  rw [if_pos hsame]
                  exact run_pure ..
                simp only [hstay, run_bind, run_pure, getObj, setObj, Sem.run, hblk]
              · simp only [entrySet, Array.toList_modify]
                exact Entries.set hes (fun m0 hm0 => ⟨hxr, hyr, rfl⟩)
          obtain ⟨ms', c', hr1, hc', hes'⟩ := hrun
          obtain ⟨h1, h2⟩ := HOk.put h (o' := .map ka' e' (entrySet es x y q)) (obj := .map ms' c') hμ hH rfl rfl (by
            simp only [ObjOk]
            exact ⟨by rw [hl]; first | rfl | (have := h.obj b l _ hμ hH; simp only [ObjOk] at this; rw [← hl]; exact this.1), hka, hke, ms', by rw [putBlk_heap, if_pos ⟨rfl, hlt⟩, hc'], hes'⟩)
          refine wp_skip' (w' := putBlk w l.blk (.map ms' c')) ?_ (hn _ _ _ _ _ hq (.inl rfl) h1 h2)
          rcases ho with ho | ho
          · simp only [execOp, ho, hmv, run_bind, hr1, run_pure]
          · simp only [execOp, ho, hmv, run_bind, hr1, run_pure]
        · simp at he
      · simp at he
    · simp at he
  · simp at he
theorem op_mapEntry {t : Nat} {m key : Operand} (ho : o.op = .mapEntry t m key) (he : evEntryU E H regs t m key k = some r) : o.wp P a w next Q := by
  unfold evEntryU at he
  split at he
  · rename_i ka e b hk hm
    split at he
    · rename_i ka' e' es hH
      split at he
      · rename_i κ x hx
        split at he
        · rename_i hc
          obtain ⟨rfl, rfl, rfl, hkk⟩ := hc
          rw [Bool.cond_eq_ite] at he
          split at he
          case isFalse => simp at he
          split at he
          case h_2 => simp at he
          rename_i q0 hq0
          obtain ⟨q, hqq, hpl⟩ := assoc_place hq0
          have hqe : q = q0 := by rw [hqq]; cases q <;> rfl
          clear hqq
          subst hqe
          clear hq0
          have hv := val_ok hr (E.ty t) m
          rw [hm] at hv
          replace hv := hv.resolve_left (by simp)
          obtain ⟨κ0, hv⟩ := hv
          simp only [RV] at hv
          obtain ⟨l, a1, e1, hμ, hl, _, hmv⟩ := hv
          have hobj := h.obj b l _ hμ hH
          simp only [ObjOk] at hobj
          obtain ⟨_, hka, hke, ms, hblk, hes⟩ := hobj
          have hxr := val_ok hr (E.ty ka') key
          rw [hx] at hxr
          replace hxr := hxr.resolve_left (by simp)
          obtain ⟨κ1, hxr⟩ := hxr
          simp only [RV] at hxr
          obtain ⟨rfl, hxr⟩ := hxr
          obtain ⟨hu, _, _⟩ := under_map T hk
          have hmsl := hes.length
          have hlt := lt_of_block hblk
          have hfind : FindOk P _ _ _ _ _ := run_findKeyU T hkk (by omega) hxr hes hpl w
          obtain ⟨z, hz, hzr⟩ := run_zeroValue T hke w
          have hrun : ∃ ms' c' y, (Instr.mapEntry t (.map (some l.blk)) (a.eval key)).run P w = .ok (.tuple #[y, .int .i64 (entryAt es q : Nat)]) (putBlk w l.blk (.map ms' c')) ∧ c' = (entrySet es x (entryVal es (zero E.ty (E.ty e')) q) q).length ∧
              Entries E.ty (memOf w (X ++ owned μ H)) (E.ty ka') (E.ty e') 0 (entrySet es x (entryVal es (zero E.ty (E.ty e')) q) q) ms'.toList ∧ Rep E.ty (memOf w (X ++ owned μ H)) (entryVal es (zero E.ty (E.ty e')) q) (E.ty e') y := by
            cases q with
            | none =>
              simp only [FindOk] at hfind
              refine ⟨ms.push { key := a.eval key, val := z, born := es.length }, es.length + 1, z, ?_, by simp [entrySet], ?_, hzr _⟩
              · simp only [Instr.mapEntry, run_bind, run_underlying T hu, getObj, setObj, Sem.run, hblk, run_checkKeyF T 12 10000 (by omega) _ _ _ _ hxr hkk, hfind, hz, run_pure, putBlk, entryAt, goInt]
              · simp only [entrySet, Array.toList_push]
                exact Entries.append hxr (hzr _) hes (by simp)
            | some j =>
              obtain ⟨mm, g1, g2, g3⟩ := hfind
              obtain ⟨en, hen, _, _⟩ := hpl
              obtain ⟨m', k1, k2, k3, k4⟩ := hes.get hen
              rw [g1] at k1
              simp only [Option.some.injEq] at k1
              subst k1
              have hj : j < es.length := (List.getElem?_eq_some_iff.1 hen).1
              have hmj : ms[j]? = some mm := by rw [← Array.getElem?_toList]; exact g1
              have hev : entryVal es (zero E.ty (E.ty e')) (some j) = en.2 := by simp only [entryVal, hen]
              refine ⟨ms.modify j fun e => { e with key := a.eval key }, es.length, mm.val, ?_, by simp [entrySet], ?_, by rw [hev]; exact k3⟩
              · simp only [Instr.mapEntry, run_bind, run_underlying T hu, getObj, setObj, Sem.run, hblk, run_checkKeyF T 12 10000 (by omega) _ _ _ _ hxr hkk, g2, run_pure, putBlk]
                have hstay : (Instr.keyThatStays (((ms[j]?).map (·.key)).getD (a.eval key)) (a.eval key)).run P w = .ok (a.eval key) w := by
                  rw [hmj]
                  simp only [Option.map_some, Option.getD_some, g3, Instr.keyThatStays]
                  have hsame : Instr.sameBits 10000 (a.eval key) (a.eval key) = true := sameBits_key hkk hxr
                  rw [if_pos hsame]
                  exact run_pure ..
                simp only [hstay, run_bind, run_pure, getObj, setObj, Sem.run, hblk]
                rw [hmj]
                simp only [Option.map_some, Option.getD_some, k4, entryAt, goInt, Nat.zero_add]
              · rw [hev]
                simp only [entrySet, Array.toList_modify]
                exact Entries.set hes (fun m0 hm0 => by rw [g1] at hm0; obtain rfl := Option.some.inj hm0; exact ⟨hxr, k3, rfl⟩)
          obtain ⟨ms', c', y, hr1, hc', hes', hyr⟩ := hrun
          obtain ⟨h1, h2⟩ := HOk.put h (o' := .map ka' e' (entrySet es x (entryVal es (zero E.ty (E.ty e')) q) q)) (obj := .map ms' c') hμ hH rfl rfl (by
            simp only [ObjOk]
            exact ⟨by rw [hl]; first | rfl | (have := h.obj b l _ hμ hH; simp only [ObjOk] at this; rw [← hl]; exact this.1), hka, hke, ms', by rw [putBlk_heap, if_pos ⟨rfl, hlt⟩, hc'], hes'⟩)
          refine wp_value (x := .tuple #[y, .int .i64 (entryAt es q : Nat)]) (w' := putBlk w l.blk (.map ms' c')) ?_ (hn _ _ _ _ _ he (.inr ⟨.bad, ?_⟩) h1 h2)
          · simp only [execOp, ho, hmv, run_bind, hr1, run_pure]
          · simp only [RV]
            refine ⟨trivial, _, rfl, ?_⟩
            simp only [RVt]
            exact ⟨y, _, rfl, .inr ⟨E.ty e', by simp only [RV]; exact ⟨trivial, Rep.mono _ h2.mem _ _ _ hyr⟩⟩, .int .i64 (entryAt es q : Nat), [], rfl, .inr ⟨.int .i64, by simp [RV, Rep]⟩, rfl⟩
        · simp at he
      · simp at he
    · simp at he
  · simp at he
theorem op_entryStore {t : Nat} {m i v : Operand} (ho : o.op = .entryStore t m i v) (he : evEntryStore E H regs t m i v k = some r) : o.wp P a w next Q := by
  unfold evEntryStore at he
  split at he
  · rename_i ka e b hk hm
    split at he
    · rename_i ka' e' es hH
      split at he
      · rename_i n κ' y hi hy
        split at he
        · rename_i hc
          obtain ⟨rfl, rfl, rfl⟩ := hc
          rw [Bool.cond_eq_ite] at he
          split at he
          case isFalse => simp at he
          rename_i hb
          simp only [Bool.and_eq_true, decide_eq_true_eq] at hb
          obtain ⟨hb0, hb1⟩ := hb
          obtain ⟨j, rfl⟩ : ∃ j : Nat, n = (j : Int) := ⟨n.toNat, by omega⟩
          simp only [Int.toNat_natCast] at he
          have hj : j < es.length := by omega
          have hv := val_ok hr (E.ty t) m
          rw [hm] at hv
          replace hv := hv.resolve_left (by simp)
          obtain ⟨κ0, hv⟩ := hv
          simp only [RV] at hv
          obtain ⟨l, a1, e1, hμ, hl, _, hmv⟩ := hv
          have hobj := h.obj b l _ hμ hH
          simp only [ObjOk] at hobj
          obtain ⟨_, hka, hke, ms, hblk, hes⟩ := hobj
          have hyr := val_ok hr (E.ty e') v
          rw [hy] at hyr
          replace hyr := hyr.resolve_left (by simp)
          obtain ⟨κ2, hyr⟩ := hyr
          simp only [RV] at hyr
          obtain ⟨rfl, hyr⟩ := hyr
          have hmsl := hes.length
          have hlt := lt_of_block hblk
          obtain ⟨kd, hiv⟩ := vInt_ok (val_ok hr (.int .i64) i) hi
          obtain ⟨mm, k1, k2, k3, k4⟩ := hes.get (List.getElem?_eq_getElem hj)
          have hfind : ms.findIdx? (fun e => (e.born : Int) == (j : Int)) = some j := by
            rw [Array.findIdx?_eq_some_iff_getElem]
            have hjm : j < ms.size := by simpa using (show j < ms.toList.length by omega)
            have hget : ∀ (j' : Nat) (h' : j' < ms.size), ms[j'].born = j' := fun j' h' => by
              obtain ⟨m', g1, _, _, g4⟩ := hes.get (List.getElem?_eq_getElem (show j' < es.length by rw [← hmsl]; simpa using h'))
              rw [Array.getElem?_toList, Array.getElem?_eq_getElem h'] at g1
              rw [Option.some.inj g1, g4]; omega
            refine ⟨hjm, by rw [hget j hjm]; simp, fun j' hj' => ?_⟩
            rw [hget j' (by omega)]; simp; omega
          have hes' : Entries E.ty (memOf w (X ++ owned μ H)) (E.ty ka') (E.ty e') 0 (setVal es j y) (ms.modify j fun e => { e with val := a.eval v }).toList := by
            rw [Array.toList_modify]
            exact Entries.set hes (fun m0 hm0 => by rw [k1] at hm0; obtain rfl := Option.some.inj hm0; exact ⟨by simpa [List.getD_eq_getElem?_getD, List.getElem?_eq_getElem hj] using k2, hyr, rfl⟩)
          obtain ⟨h1, h2⟩ := HOk.put h (o' := .map ka' e' (setVal es j y)) (obj := .map (ms.modify j fun e => { e with val := a.eval v }) es.length) hμ hH rfl rfl (by
            simp only [ObjOk]
            exact ⟨by rw [hl]; first | rfl | (have := h.obj b l _ hμ hH; simp only [ObjOk] at this; rw [← hl]; exact this.1), hka, hke, _, by rw [putBlk_heap, if_pos ⟨rfl, hlt⟩]; simp [setVal], hes'⟩)
          refine wp_skip' (w' := putBlk w l.blk (.map (ms.modify j fun e => { e with val := a.eval v }) es.length)) ?_ (hn _ _ _ _ _ he (.inl rfl) h1 h2)
          simp only [execOp, ho, hmv, Instr.entryStore, asInt, hiv, asIntOf, run_bind, run_pure, getObj, setObj, Sem.run, hblk, hfind, putBlk]
        · simp at he
      · simp at he
    · simp at he
  · simp at he
theorem op_lookupU {t : Nat} {m key : Operand} {ok : Bool} (ho : o.op = .lookup t m key ok) (he : evLookupU E H regs t m key ok k = some r) : o.wp P a w next Q := by
  unfold evLookupU at he
  split at he
  · rename_i ka e b hk hm
    split at he
    · rename_i ka' e' es hH
      split at he
      · rename_i κ x hx
        split at he
        · rename_i hc
          obtain ⟨rfl, rfl, rfl, hkk⟩ := hc
          split at he
          case h_2 => simp at he
          rename_i q0 hq0
          obtain ⟨q, hqq, hpl⟩ := assoc_place hq0
          have hqe : q = q0 := by rw [hqq]; cases q <;> rfl
          clear hqq
          subst hqe
          clear hq0
          have hq := he
          have hv := val_ok hr (E.ty t) m
          rw [hm] at hv
          replace hv := hv.resolve_left (by simp)
          obtain ⟨κ0, hv⟩ := hv
          simp only [RV] at hv
          obtain ⟨l, a1, e1, hμ, hl, _, hmv⟩ := hv
          have hobj := h.obj b l _ hμ hH
          simp only [ObjOk] at hobj
          obtain ⟨_, hka, hke, ms, hblk, hes⟩ := hobj
          have hxr := val_ok hr (E.ty ka') key
          rw [hx] at hxr
          replace hxr := hxr.resolve_left (by simp)
          obtain ⟨κ1, hxr⟩ := hxr
          simp only [RV] at hxr
          obtain ⟨rfl, hxr⟩ := hxr
          obtain ⟨hu, _, _⟩ := under_map T hk
          have hfind : FindOk P _ _ _ _ _ := run_findKeyU T hkk (by omega) hxr hes hpl w
          obtain ⟨z, hz, hzr⟩ := run_zeroValue T hke w
          have hrun : ∃ y, (Instr.lookup t (.map (some l.blk)) (a.eval key) ok).run P w = .ok (if ok = true then .tuple #[y, .bool q.isSome] else y) w ∧ Rep E.ty (M_ X μ H w) (entryVal es (zero E.ty (E.ty e')) q) (E.ty e') y := by
            cases q with
            | none =>
              simp only [FindOk] at hfind
              refine ⟨z, ?_, hzr _⟩
              simp only [Instr.lookup, run_bind, run_underlying T hu, getObj, Sem.run, hblk, run_checkKeyF T 12 10000 (by omega) _ _ _ _ hxr hkk, hfind, hz, run_pure, Option.isSome_none]
            | some j =>
              obtain ⟨mm, g1, g2, g3⟩ := hfind
              obtain ⟨en, hen, _, _⟩ := hpl
              obtain ⟨m', k1, k2, k3, k4⟩ := hes.get hen
              rw [g1] at k1
              simp only [Option.some.injEq] at k1
              subst k1
              refine ⟨mm.val, ?_, by simp only [entryVal, hen]; exact k3⟩
              simp only [Instr.lookup, run_bind, run_underlying T hu, getObj, Sem.run, hblk, run_checkKeyF T 12 10000 (by omega) _ _ _ _ hxr hkk, g2, run_pure, Option.isSome_some]
          obtain ⟨y, hr1, hyr⟩ := hrun
          cases ok with
          | true =>
            simp only [cond_true] at hq
            refine wp_value (x := .tuple #[y, .bool q.isSome]) (w' := w) ?_ (hn.same h hq (.inr ⟨.bad, ?_⟩))
            · simp only [execOp, ho, hmv, run_bind, hr1, run_pure]; rfl
            · simp only [RV]
              refine ⟨trivial, _, rfl, ?_⟩
              simp only [RVt]
              refine ⟨y, _, rfl, .inr ⟨E.ty e', by simp only [RV]; exact ⟨trivial, hyr⟩⟩, .bool q.isSome, [], rfl, .inr ⟨.bool, by simp [RV, Rep]⟩, rfl⟩
          | false =>
            simp only [cond_false] at hq
            refine wp_value (x := y) (w' := w) ?_ (hn.same h hq (.inr ⟨E.ty e', by simp only [RV]; exact ⟨trivial, hyr⟩⟩))
            simp only [execOp, ho, hmv, run_bind, hr1, run_pure]; rfl
        · simp at he
      · simp at he
    · simp at he
  · simp at he
end
end Go.AM
