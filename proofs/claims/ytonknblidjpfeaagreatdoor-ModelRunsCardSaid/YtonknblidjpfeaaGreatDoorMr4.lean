/- Part 4 of the proof: the abstract machine, what the functions compute, and plain laws over that. -/
import Derived.Test.YtonknblidjpfeaaGreatDoorMr3
import Derived.OrdersIn
import Derived.LoopNIn
import Derived.RangeFuncRecord
import Derived.RangeFuncCalls
set_option linter.all false
set_option linter.unusedSimpArgs false
set_option linter.unusedVariables false
set_option linter.unusedSectionVars false
namespace Go.AM
open Go Go.RowKit
section
variable {P : Program} {ty : Nat → K} {cd : Cd} {X : List Nat} {B0 : Nat} {w0 : World}
section ops
variable {R : Type} {E : Env} {hint : Hint} {μ : List Loc} {H : List AObj} {w : World} {regs : List V} {a : Act} {o : Oper} {k : V → Eff → Option R} {r : R} {next : Act → World → Prop} {Q : Exit → Act → World → Prop}
variable (T : TyOk P E.ty) (h : HOk E.ty P.cellsOf E.rnd X B0 w0 μ H w) (hr : Regs P E.ty (M_ X μ H w) μ regs a.tmps) (hn : Nexts P E.ty E.rnd X B0 w0 μ H w a o.dst k r next)
theorem _root_.List.set_getElem?_self_of {α : Type} {l : List α} {i : Nat} {x : α} (h : l[i]? = some x) : l.set i x = l := by
  obtain ⟨hi, rfl⟩ := List.getElem?_eq_some_iff.1 h
  exact List.set_getElem_self hi
theorem run_builtin {c : Call} {b : Builtin} (ho : o.op = .call c) (hc : c.callee = .builtin b) : ∃ cs, execOp a.eval o = Go.builtin b c.argTypes o.type cs (c.args.map a.eval) := by
  refine ⟨c.args.map fun | .const _ => true | _ => false, ?_⟩
  simp only [execOp, ho, resolve, hc]
  rfl
theorem vals_two {xs : List Operand} {ts : List Nat} {s x : V} {t u : Nat} (hl : xs.length = ts.length) (h1 : vals regs E.ty xs ts = [s, x]) (h2 : ts = [t, u]) : ∃ ao bo, xs = [ao, bo] ∧ s = val regs (E.ty t) ao ∧ x = val regs (E.ty u) bo := by
  subst h2
  match xs, hl with
  | [ao, bo], _ => simp only [vals, List.cons.injEq, and_true] at h1; exact ⟨ao, bo, rfl, h1.1.symm, h1.2.symm⟩
include T h hr hn
theorem append_new {c : Call} {t u e : Nat} {ao bo : Operand} (ho : o.op = .call c) (hc : c.callee = .builtin .append) (hargs : c.args.toList = [ao, bo]) (hts : c.argTypes.toList = [t, u]) (hk : E.ty t = .slice e) {κu : K} (hku : E.ty u = κu) (hκu : κu = .str ∨ ∃ e', κu = .slice e')
    {base : Option Addr} {sLen sCap : Nat} {xs ys : List D} {cs os : List Value} (hs : a.eval ao = .slice base sLen sCap) (hlen : (Builtin.lenOf (a.eval bo)).run P w = .ok ys.length w) (hcap : sCap < sLen + ys.length) (hmax : sLen + ys.length ≤ maxLen) (hxs : xs.length = sLen)
    (hsrc : ∀ w' : World, (∀ b : Nat, w'.heap[b]? = w.heap[b]?) → (Builtin.firstCells (P.cellsOf e) ys.length (a.eval bo)).run P w' = .ok cs.toArray w') (hys : Reps E.ty (M_ X μ H w) ys (List.replicate ys.length (E.ty e)) cs)
    (hold : ∀ w' : World, (∀ b : Nat, w'.heap[b]? = w.heap[b]?) → (Builtin.firstCells (P.cellsOf e) sLen (.slice base sLen sCap)).run P w' = .ok os.toArray w') (hxsr : Reps E.ty (M_ X μ H w) xs (List.replicate xs.length (E.ty e)) os)
    {H' : List AObj} (h' : HOk E.ty P.cellsOf E.rnd X B0 w0 μ H' w) (hle : (M_ X μ H w).le (M_ X μ H' w)) :
    ∃ w' μ', (execOp a.eval o).run P w = .ok (.value (.slice (some ⟨w.heap.size, 0, none⟩) (sLen + ys.length) (match (Builtin.append_ c.argTypes o.type (c.args.map a.eval)).run P w with | .ok (.slice _ _ cap) _ => cap | _ => 0))) w' ∧
      HOk E.ty P.cellsOf E.rnd X B0 w0 μ' (H' ++ [.row e true true (xs ++ ys)]) w' ∧ Fut X B0 μ.length μ H' w μ' (H' ++ [.row e true true (xs ++ ys)]) w' ∧
      RR E.ty P.cellsOf (M_ X μ' (H' ++ [.row e true true (xs ++ ys)]) w') μ' (.sref H'.length 0 (sLen + ys.length)) (.slice (some ⟨w.heap.size, 0, none⟩) (sLen + ys.length) (match (Builtin.append_ c.argTypes o.type (c.args.map a.eval)).run P w with | .ok (.slice _ _ cap) _ => cap | _ => 0)) := by
  have hne := under_slice_ne T hk
  have hux : ∃ dx, P.underlying u = some dx ∧ ∀ k, dx ≠ .int k := by
    rcases hκu with rfl | ⟨e', rfl⟩
    · exact ⟨_, under_str T hku, by simp⟩
    · exact ⟨_, under_slice T hku, by simp⟩
  obtain ⟨dx, hux, hdx⟩ := hux
  have ea : c.argTypes = #[t, u] := by apply Array.toList_inj.1; rw [hts]
  have eb : c.args.map a.eval = #[a.eval ao, a.eval bo] := by apply Array.toList_inj.1; simp [hargs]
  obtain ⟨cap, rest, hc1, hc2, hrun⟩ := run_append_new (T' := T) (ty0 := o.type) (under_slice T hk) hne hux hdx hlen hcap hmax hsrc hold
  rw [ea, eb, hs, hrun]
  simp only []
  have hl : (xs ++ ys).length = sLen + ys.length := by simp [hxs]
  obtain ⟨h1, h2, h3⟩ := newRow_adopt h' (w' := { w with drawn := w.drawn + 1, heap := w.heap.push (.cells (os ++ cs ++ rest).toArray e) })
    ⟨rfl, rfl, rfl, by simp, fun i hi => by simp only [Array.getElem?_push]; rw [if_neg (by omega)]⟩ (blk := w.heap.size) (e := e) (cap := cap) (et := e) (fz := (0, 0)) (cs := (os ++ cs ++ rest).toArray) (ds := xs ++ ys) (mid := os ++ cs) (post := rest)
    (Nat.le_refl _) (by simp) hne (by simp) (fun M' hM => by
      rw [List.length_append, ← List.replicate_append_replicate]
      exact Reps.mono _ (Mem.le_trans hle hM) _ _ _ (hxsr.append hys)) (by omega) (by rw [hl, hc2]; exact Nat.le_refl _) (by simp)
  rw [hl] at h1 h2 h3
  refine ⟨_, _, ?_, h1, h2, h3⟩
  obtain ⟨cs', hex⟩ := run_builtin (a := a) ho hc
  rw [hex]
  simp only [Go.builtin]
  rw [ea, eb, hs]
  simp only [run_bind, hrun, run_pure]
theorem append_in {c : Call} {t u e : Nat} {ao bo : Operand} (ho : o.op = .call c) (hc : c.callee = .builtin .append) (hargs : c.args.toList = [ao, bo]) (hts : c.argTypes.toList = [t, u]) (hk : E.ty t = .slice e) {κu : K} (hku : E.ty u = κu) (hκu : κu = .str ∨ ∃ e', κu = .slice e')
    {b off len : Nat} {nn : Bool} {ds ys : List D} {cs : List Value} {l : Loc} {cap : Nat} (hμ : μ[b]? = some l) (hH : H[b]? = some (.row e true nn ds)) (hvirt : l.virt = false) (hs : a.eval ao = .slice (some ⟨l.blk, l.base + off * P.cellsOf e, none⟩) len cap) (hlc : len ≤ cap) (hoc : off + cap ≤ l.cap) (hol : off + len ≤ ds.length)
    (hlen : (Builtin.lenOf (a.eval bo)).run P w = .ok ys.length w) (hcap : len + ys.length ≤ cap)
    (hsrc : ∀ w' : World, (∀ b : Nat, w'.heap[b]? = w.heap[b]?) → (Builtin.firstCells (P.cellsOf e) ys.length (a.eval bo)).run P w' = .ok cs.toArray w') (hys : Reps E.ty (M_ X μ H w) ys (List.replicate ys.length (E.ty e)) cs)
    (hkk : k (.sref H.length 0 (len + ys.length)) (.kill b (.row e true true ((ds.drop off).take len ++ ys))) = some r) : o.wp P a w next Q := by
  have hne := under_slice_ne T hk
  have hux : ∃ dx, P.underlying u = some dx ∧ ∀ k, dx ≠ .int k := by
    rcases hκu with rfl | ⟨e', rfl⟩
    · exact ⟨_, under_str T hku, by simp⟩
    · exact ⟨_, under_slice T hku, by simp⟩
  obtain ⟨dx, hux, hdx⟩ := hux
  have ea : c.argTypes = #[t, u] := by apply Array.toList_inj.1; rw [hts]
  have eb : c.args.map a.eval = #[a.eval ao, a.eval bo] := by apply Array.toList_inj.1; simp [hargs]
  have hobj := h.obj b l _ hμ hH
  simp only [ObjOk] at hobj
  obtain ⟨_, _, _, hb⟩ := hobj
  rw [if_neg (by simp [hvirt])] at hb
  obtain ⟨hnn, hlcap, bs, et, fz, pre, mid, post, h1, h2, h3, h4, h5, h6⟩ := hb
  obtain ⟨c1, cm, c2, e1, l1, l2, r1, _, r2⟩ := Reps.drop_take T.szOk hne h4 hol
  have hcs : cs.length = ys.length * P.cellsOf e := by
    have := (Reps.size T.szOk _ _ _ hys).2 (List.replicate ys.length e) (by simp)
    simpa using this
  have hc2 : c2.length = (ds.length - (off + len)) * P.cellsOf e := by
    have := (Reps.size T.szOk _ _ _ r2).2 (List.replicate (ds.length - (off + len)) e) (by simp)
    simpa using this
  have hroom : (cap - len) * P.cellsOf e ≤ (c2 ++ post).length := by
    rw [List.length_append, hc2]
    have : (cap - len) ≤ (ds.length - (off + len)) + (l.cap - ds.length) := by omega
    calc (cap - len) * P.cellsOf e ≤ ((ds.length - (off + len)) + (l.cap - ds.length)) * P.cellsOf e := Nat.mul_le_mul_right _ this
      _ = (ds.length - (off + len)) * P.cellsOf e + (l.cap - ds.length) * P.cellsOf e := Nat.add_mul _ _ _
      _ ≤ _ := by omega
  have hn2 : ys.length * P.cellsOf e ≤ (c2 ++ post).length := Nat.le_trans (Nat.mul_le_mul_right _ (by omega)) hroom
  let seg := (c2 ++ post).take (ys.length * P.cellsOf e)
  let rest := (c2 ++ post).drop (ys.length * P.cellsOf e)
  have hseg : seg.length = cs.length := by simp only [seg, List.length_take, hcs]; omega
  have hbs : bs.toList = (pre ++ c1 ++ cm) ++ seg ++ rest := by
    rw [h2, e1]
    simp only [seg, rest, List.append_assoc, List.take_append_drop]
  have hbs' : w.heap[l.blk]? = some (.cells ((pre ++ c1 ++ cm) ++ seg ++ rest).toArray et fz) := by rw [← hbs]; exact h1
  have hcsc : ∀ v ∈ cs, scal v = true := Reps.scal _ _ _ _ hys
  have hpre : (pre ++ c1 ++ cm).length = l.base + off * P.cellsOf e + len * P.cellsOf e := by simp [h3, l1, l2]; omega
  have hst := run_storeCells (P := P) (b := l.blk) (base := l.base + off * P.cellsOf e + len * P.cellsOf e) (et := et) (fz := fz) cs 0 (pre ++ c1 ++ cm) seg rest w hbs' hseg (by simpa using hpre) hcsc (fun o ho => h6 o (by
    have : bs.size = bs.toList.length := by simp
    rw [this, hbs]; exact Nat.lt_add_right _ ho))
  have hrun := run_append_in (T' := T) (ty0 := o.type) (base := some ⟨l.blk, l.base + off * P.cellsOf e, none⟩) (sLen := len) (sCap := cap) (under_slice T hk) hne hux hdx hlen (hsrc w (fun _ => rfl)) hcap
    (w' := putBlk w l.blk (.cells ((pre ++ c1 ++ cm) ++ cs ++ rest).toArray et fz)) (by simpa [addr_add] using hst)
  obtain ⟨cs', hex⟩ := run_builtin (a := a) ho hc
  have hfin : (execOp a.eval o).run P w = .ok (.value (.slice (some ⟨l.blk, l.base + off * P.cellsOf e, none⟩) (len + ys.length) cap)) (putBlk w l.blk (.cells ((pre ++ c1 ++ cm) ++ cs ++ rest).toArray et fz)) := by
    rw [hex]
    simp only [Go.builtin]
    rw [ea, eb, hs]
    simp only [run_bind, hrun, run_pure]
  have hlx : ((ds.drop off).take len).length = len := by simp; omega
  have hly : ((ds.drop off).take len ++ ys).length = len + ys.length := by simp; omega
  obtain ⟨g1, g2⟩ := HOk.killPut h (l' := ⟨l.blk, l.base + off * P.cellsOf e, cap, .array (len + ys.length) e, false, true⟩) (o' := .row e true true ((ds.drop off).take len ++ ys)) (obj := .cells ((pre ++ c1 ++ cm) ++ cs ++ rest).toArray et fz) hμ hH (by simp [ownB, hvirt]) (by simp [ownB]) (fun M' hM => by
    simp only [ObjOk]
    refine ⟨by rw [hly], trivial, hne, ?_⟩
    rw [if_neg (by simp)]
    refine ⟨trivial, by omega, ((pre ++ c1 ++ cm) ++ cs ++ rest).toArray, et, fz, pre ++ c1, cm ++ cs, rest, ?_, by simp, by simp [h3, l1], ?_, ?_, ?_⟩
    · rw [putBlk_heap, if_pos ⟨rfl, lt_of_block h1⟩]
    · rw [hly, ← List.replicate_append_replicate]
      exact Reps.mono _ hM _ _ _ (r1.append hys)
    · rw [hly]
      have e9 : rest.length = (c2 ++ post).length - ys.length * P.cellsOf e := by simp [rest]
      have : (cap - (len + ys.length)) * P.cellsOf e = (cap - len) * P.cellsOf e - ys.length * P.cellsOf e := by
        rw [← Nat.sub_mul]; congr 1; omega
      omega
    · intro o ho
      refine h6 o ?_
      have : bs.size = bs.toList.length := by simp
      rw [this, hbs]
      simp at ho ⊢
      omega)
  refine wp_value hfin (hn _ _ _ _ _ hkk (.inr ⟨.slice e, ?_⟩) g1 g2)
  simp only [RV]
  refine ⟨⟨l.blk, l.base + off * P.cellsOf e, cap, .array (len + ys.length) e, false, true⟩, len + ys.length, e, ?_, rfl, rfl, by omega, .inr (.inl ⟨rfl, cap, by simp, hcap, by simp, by simpa using hcap⟩)⟩
  rw [← h.len]; simp
omit hr hn in
theorem splice_ok {b e : Nat} {l : Loc} {nn : Bool} {ds : List D} (hμ : μ[b]? = some l) (hH : H[b]? = some (.row e true nn ds)) (hvirt : l.virt = false) {p : Nat} {ys : List D} {cs : List Value} (hys : Reps E.ty (M_ X μ H w) ys (List.replicate ys.length (E.ty e)) cs) (hp : p + ys.length ≤ ds.length) :
    ∃ w', (storeCells ⟨l.blk, l.base + p * P.cellsOf e, none⟩ cs).run P w = .ok () w' ∧ HOk E.ty P.cellsOf E.rnd X B0 w0 μ (H.set b (.row e true nn (ds.take p ++ ys ++ ds.drop (p + ys.length)))) w' ∧
      Fut X B0 μ.length μ H w μ (H.set b (.row e true nn (ds.take p ++ ys ++ ds.drop (p + ys.length)))) w' := by
  have hobj := h.obj b l _ hμ hH
  have hne : E.ty e ≠ .bad := by simp only [ObjOk] at hobj; exact hobj.2.2.1
  have hob := hobj
  simp only [ObjOk] at hob
  obtain ⟨_, _, _, hob⟩ := hob
  rw [if_neg (by simp [hvirt])] at hob
  obtain ⟨hnn, hcap, bs, et, fz, pre, mid, post, h1, h2, h3, h4, h5, h6⟩ := hob
  obtain ⟨c1, cm, c2, e1, l1, l2, r1, r0, r2⟩ := Reps.drop_take T.szOk hne h4 (i := p) (n := ys.length) hp
  have hcs : cs.length = ys.length * P.cellsOf e := by
    have := (Reps.size T.szOk _ _ _ hys).2 (List.replicate ys.length e) (by simp)
    simpa using this
  have hbs : bs = ((pre ++ c1) ++ cm ++ (c2 ++ post)).toArray := by apply Array.toList_inj.1; rw [h2, e1]; simp
  have hst := run_storeCells (P := P) (b := l.blk) (base := l.base + p * P.cellsOf e) (et := et) (fz := fz) cs 0 (pre ++ c1) cm (c2 ++ post) w (by rw [← hbs]; exact h1) (by rw [l2, hcs]) (by simp [h3, l1]) (Reps.scal _ _ _ _ hys) (fun o ho => h6 o (by
    have : bs.size = bs.toList.length := by simp
    rw [this, hbs]; exact Nat.lt_add_right _ (by simpa using ho)))
  have hlen : (ds.take p ++ ys ++ ds.drop (p + ys.length)).length = ds.length := by simp; omega
  refine ⟨_, hst, ?_⟩
  refine HOk.put h hμ hH (by simp [ownB, hvirt]) (by simp [ownB, hvirt]) ?_
  simp only [ObjOk] at hobj ⊢
  rw [hlen]
  refine ⟨hobj.1, hobj.2.1, hne, ?_⟩
  rw [if_neg (by simp [hvirt])]
  refine ⟨hnn, hcap, ((pre ++ c1) ++ cs ++ (c2 ++ post)).toArray, et, fz, pre, c1 ++ cs ++ c2, post, ?_, by simp, h3, ?_, h5, ?_⟩
  · rw [putBlk_heap, if_pos ⟨rfl, lt_of_block h1⟩]
  · have er : List.replicate ds.length (E.ty e) = List.replicate p (E.ty e) ++ List.replicate ys.length (E.ty e) ++ List.replicate (ds.length - (p + ys.length)) (E.ty e) := by
      rw [List.replicate_append_replicate, List.replicate_append_replicate]; congr 1; omega
    rw [er]
    exact (r0.append hys).append r2
  · intro o ho
    refine h6 o ?_
    have : bs.size = bs.toList.length := by simp
    rw [this, hbs]
    simp [hcs, l2] at ho ⊢
    omega
theorem op_append {c : Call} (ho : o.op = .call c) (hc : c.callee = .builtin .append) (hl : c.args.toList.length = c.argTypes.toList.length) (he : evAppend E hint.inpl H (vals regs E.ty c.args.toList c.argTypes.toList) c.argTypes.toList k = some r) : o.wp P a w next Q := by
  unfold evAppend at he
  split at he
  · rename_i s x t u hvs hts
    obtain ⟨ao, bo, hargs, rfl, rfl⟩ := vals_two hl hvs hts
    split at he
    · rename_i e hk
      have hne := under_slice_ne T hk
      split at he
      · rename_i ys hlit
        have hrx := val_ok hr (E.ty u) bo
        have hrs := val_ok hr (E.ty t) ao
        obtain ⟨hlen, ⟨cs, hsrc, hys⟩, hκu⟩ := src_ok T h hrx hlit
        have ea : c.argTypes = #[t, u] := by apply Array.toList_inj.1; rw [hts]
        have eb : c.args.map a.eval = #[a.eval ao, a.eval bo] := by apply Array.toList_inj.1; simp [hargs]
        have hux : ∃ dx, P.underlying u = some dx ∧ ∀ k, dx ≠ .int k := by
          rcases hκu with hκu | ⟨e', hκu⟩
          · exact ⟨_, under_str T hκu, by simp⟩
          · exact ⟨_, under_slice T hκu, by simp⟩
        obtain ⟨dx, hux, hdx⟩ := hux
        have hstay : ∀ (base : Option Addr) (n cap : Nat), a.eval ao = .slice base n cap → ys = [] → n ≤ cap → (execOp a.eval o).run P w = .ok (.value (.slice base n cap)) w := by
          intro base n cap hs h0 hcap
          subst h0
          have hcs0 : cs = [] := by have := Reps.length hys; simp [Reps] at hys; exact hys
          subst hcs0
          have hrun := run_append_in (T' := T) (ty0 := o.type) (base := base) (sLen := n) (sCap := cap) (under_slice T hk) hne hux hdx hlen (hsrc w (fun _ => rfl)) (by simpa using hcap) (w' := w) (by cases base <;> simp [storeCells, run_pure])
          obtain ⟨cs', hex⟩ := run_builtin (a := a) ho hc
          rw [hex]
          simp only [Go.builtin]
          rw [ea, eb, hs]
          simp only [run_bind, hrun, run_pure]
          simp
        have hempty : ∀ (base : Option Addr) (H' : List AObj) (eff : List D → Eff), a.eval ao = .slice base 0 0 → HOk E.ty P.cellsOf E.rnd X B0 w0 μ H' w → (M_ X μ H w).le (M_ X μ H' w) → H'.length = H.length → ys.length ≤ maxLen →
            (∀ ds, (Eff.app (eff ds) H) = H' ++ [.row e true (base.isSome || !ys.isEmpty) ds]) → k (.sref H.length 0 ys.length) (eff ys) = some r → o.wp P a w next Q := by
          intro base H' eff hs h' hle hH' hmax heff hkk
          cases hys0 : ys with
          | nil =>
            rw [hys0] at hkk
            obtain ⟨g1, g2, g3⟩ := newVirt h' (Below.refl _ _) hne base
            have := heff []
            rw [hys0] at this
            simp only [List.isEmpty_nil, Bool.not_true, Bool.or_false] at this
            refine wp_value (hstay base 0 0 hs hys0 (Nat.le_refl _)) (hn _ (eff []) (μ ++ [⟨0, 0, 0, .array 0 e, true, base.isSome⟩]) w _ hkk ?_ ?_ ?_)
            · rw [this]; rw [hH'] at g3; exact g3
            · rw [this]; exact g1
            · rw [this]; exact ⟨g2.loc, g2.len, Mem.le_trans hle g2.mem, g2.below, g2.dfr⟩
          | cons y ys' =>
            have hpos : 0 < ys.length := by rw [hys0]; simp
            obtain ⟨w', μ', g0, g1, g2, g3⟩ := append_new T h hr hn ho hc hargs hts hk rfl hκu (xs := []) (os := []) hs hlen (by omega) (by omega) rfl hsrc hys
              (fun w' _ => by cases base <;> simp [Builtin.firstCells, loadCells, loadCellsFrom, run_pure]) (by simp [Reps]) h' hle
            have := heff ys
            have hne' : ys.isEmpty = false := by rw [hys0]; rfl
            rw [hne'] at this
            simp only [Bool.not_false, Bool.or_true] at this
            refine wp_value g0 (hn _ (eff ys) μ' w' _ hkk ?_ ?_ ?_)
            · rw [this]; rw [hH'] at g3; simpa using g3
            · rw [this]; exact g1
            · rw [this]; exact ⟨g2.loc, g2.len, Mem.le_trans hle g2.mem, g2.below, g2.dfr⟩
        split at he
        · rename_i e' hb
          split at he
          · rename_i hee
            subst hee
            cases hmax : decide (ys.length ≤ maxLen) with
            | false => rw [hmax] at he; simp at he
            | true =>
            rw [hmax] at he
            simp only [cond_true] at he
            rw [hb] at hrs
            replace hrs := hrs.resolve_left (by simp)
            obtain ⟨κ0, hrs⟩ := hrs
            simp only [RV] at hrs
            obtain ⟨rfl, hrs⟩ := hrs
            simp only [Rep] at hrs
            obtain ⟨e1, ad, cap, h1, hs, _, hnn, hnil, _⟩ := hrs
            have had : ad = none := by cases ad with | none => rfl | some _ => simp at hnn
            subst had
            have hcap0 := hnil rfl
            subst hcap0
            exact hempty none H (fun ds => .new (.row e' true (!ys.isEmpty) ds)) hs h (Mem.le_refl _) rfl (of_decide_eq_true hmax) (fun ds => by simp [Eff.app]) he
          · simp at he
        · rename_i e' ds hb
          split at he
          · rename_i hee
            subst hee
            rw [hb] at hrs
            replace hrs := hrs.resolve_left (by simp)
            obtain ⟨κ0, hrs⟩ := hrs
            have hrs' := hrs
            simp only [RV] at hrs
            obtain ⟨_, ad, os, hs, hat, hxs⟩ := hrs
            split at he
            · cases hmax : decide (ys.length ≤ maxLen) with
              | false => rw [hmax] at he; simp at he
              | true =>
              rw [hmax] at he
              simp only [cond_true] at he
              exact hempty (some ad) H (fun ds => .new (.row e' true true ds)) hs h (Mem.le_refl _) rfl (of_decide_eq_true hmax) (fun ds => by simp [Eff.app]) he
            · rename_i d0 ds0
              cases ys with
              | nil => exact wp_value (hstay _ _ _ hs rfl (Nat.le_refl _)) (hn.same h he (.inr ⟨κ0, hs ▸ hrs'⟩))
              | cons y0 ys0 =>
                simp only [] at he
                cases hmax : decide ((d0 :: ds0).length + (y0 :: ys0).length ≤ maxLen) with
                | false => rw [hmax] at he; simp at he
                | true =>
                rw [hmax] at he
                simp only [cond_true] at he
                have hos : os.length = (d0 :: ds0).length * P.cellsOf e' := by
                  have := (Reps.size T.szOk _ _ _ hxs).2 (List.replicate (d0 :: ds0).length e') (by simp)
                  simpa using this
                obtain ⟨w', μ', g0, g1, g2, g3⟩ := append_new T h hr hn ho hc hargs hts hk rfl hκu (xs := d0 :: ds0) (os := os) hs hlen (by simp) (of_decide_eq_true hmax) rfl hsrc hys
                  (fun w' hw' => by
                    simp only [Builtin.firstCells]
                    rw [← hos]
                    refine run_loadCells hat.1 (fun j v hj => ?_)
                    have := hat.2 j v hj
                    simp only [M_, memOf] at this
                    split at this
                    · simp at this
                    · rw [cell_congr (hw' _)]; exact this) hxs h (Mem.le_refl _)
                exact wp_value g0 (hn _ _ _ _ _ he g3 g1 g2)
          · simp at he
        · rename_i b off len hb
          split at he
          · rename_i e' nn ds hH
            split at he
            · rename_i hee
              subst hee
              cases hin : hint.inpl with
              | true =>
                rw [hin] at he
                simp only [cond_true] at he
                cases hmax : decide (off + len + ys.length ≤ ds.length) with
                | false => rw [hmax] at he; simp at he
                | true =>
                rw [hmax] at he
                simp only [cond_true] at he
                simp only [decide_eq_true_eq] at hmax
                rw [hb] at hrs
                replace hrs := hrs.resolve_left (by simp)
                obtain ⟨κ0, hrs⟩ := hrs
                have hrs0 := hrs
                simp only [RV] at hrs
                obtain ⟨l, n, e0, hμ, hl, hκ0, hlen', hx⟩ := hrs
                obtain ⟨rfl, rfl⟩ := row_loc h hH hμ hl
                have hnil : ∀ {base : Option Addr} {cap : Nat}, a.eval ao = .slice base len cap → len ≤ cap → ys = [] → o.wp P a w next Q := by
                  intro base cap hs hc hy
                  subst hy
                  have hset : H.set b (.row e0 true nn (ds.take (off + len) ++ [] ++ ds.drop (off + len + ([] : List D).length))) = H := by
                    rw [List.append_nil, List.length_nil, Nat.add_zero, List.take_append_drop]
                    exact List.set_getElem?_self_of hH
                  refine wp_value (hstay _ _ _ hs rfl hc) (hn _ _ μ w _ he (.inr ⟨κ0, ?_⟩) ?_ ?_)
                  · simp only [Eff.app, List.length_nil, Nat.add_zero]
                    simp only [List.length_nil, Nat.add_zero] at hset
                    rw [hset, ← hs]; exact hrs0
                  · simp only [Eff.app]; rw [hset]; exact h
                  · simp only [Eff.app]; rw [hset]; exact Fut.refl h
                rcases hx with ⟨hvirt, rfl, ad, hs, ha⟩ | ⟨hvirt, cap, hs, hlc, hoc, hreach⟩ | ⟨hvirt, rfl, hreach, ad, hs⟩
                · have hobj := h.obj b l _ hμ hH
                  have hd0 : ds = [] := by simp only [ObjOk] at hobj; rw [if_pos hvirt] at hobj; exact hobj.2.2.2
                  have hdl : ds.length = 0 := by rw [hd0]; rfl
                  exact hnil hs (Nat.le_refl _) (List.eq_nil_of_length_eq_zero (by omega))
                · obtain ⟨w', hst, g1, g2⟩ := splice_ok T h hμ hH hvirt (p := off + len) hys hmax
                  have hrun := run_append_in (T' := T) (ty0 := o.type) (base := some ⟨l.blk, l.base + off * P.cellsOf e0, none⟩) (sLen := len) (sCap := cap) (under_slice T hk) hne hux hdx hlen (hsrc w (fun _ => rfl)) (by omega)
                    (w' := w') (by simpa [addr_add, Nat.add_mul, Nat.add_assoc] using hst)
                  obtain ⟨cs', hex⟩ := run_builtin (a := a) ho hc
                  have hfin : (execOp a.eval o).run P w = .ok (.value (.slice (some ⟨l.blk, l.base + off * P.cellsOf e0, none⟩) (len + ys.length) cap)) w' := by
                    rw [hex]
                    simp only [Go.builtin]
                    rw [ea, eb, hs]
                    simp only [run_bind, hrun, run_pure]
                  refine wp_value hfin (hn _ _ _ _ _ he (.inr ⟨.slice e0, ?_⟩) g1 g2)
                  simp only [RV]
                  exact ⟨l, ds.length, e0, hμ, hl, rfl, by omega, .inr (.inl ⟨hvirt, cap, rfl, by omega, hoc, hreach⟩)⟩
                · exact hnil hs (Nat.le_refl _) (List.eq_nil_of_length_eq_zero (by omega))
              | false =>
              rw [hin] at he
              simp only [cond_false] at he
              cases hmax : decide (len + ys.length ≤ maxLen) with
              | false => rw [hmax] at he; simp at he
              | true =>
              rw [hmax] at he
              simp only [cond_true] at he
              simp only [decide_eq_true_eq] at hmax
              rw [hb] at hrs
              replace hrs := hrs.resolve_left (by simp)
              obtain ⟨κ0, hrs⟩ := hrs
              simp only [RV] at hrs
              obtain ⟨l, n, e0, hμ, hl, _, hlen', hx⟩ := hrs
              obtain ⟨rfl, rfl⟩ := row_loc h hH hμ hl
              have hobj := h.obj b l _ hμ hH
              obtain ⟨hd1, hd2⟩ := h.less hμ hH (o' := .dead) (by simp [ownB]) (by simp [usesB]) (fun _ _ => trivial)
              have hdl : (H.set b .dead).length = H.length := by simp
              have hlx : ((ds.drop off).take len).length = len := by simp; omega
              rcases hx with ⟨hvirt, rfl, ad, hs, ha⟩ | ⟨hvirt, cap, hs, hlc, hoc, hreach⟩ | ⟨hvirt, rfl, hreach, ad, hs⟩
              · have hlnn : l.nn = nn := by simp only [ObjOk] at hobj; exact hobj.2.1
                refine hempty ad (H.set b .dead) (fun ds' => .kill b (.row e0 true (nn || !ys.isEmpty) ds')) hs hd1 hd2.mem hdl (by omega) (fun ds' => by simp [Eff.app, ha, hlnn]) (by simpa using he)
              · have hnn : nn = true := by
                  simp only [ObjOk] at hobj
                  obtain ⟨_, _, _, hb⟩ := hobj
                  rw [if_neg (by simp [hvirt])] at hb
                  exact hb.1
                subst hnn
                simp only [Bool.true_or] at he
                by_cases hroom : len + ys.length ≤ cap
                · exact append_in T h hr hn ho hc hargs hts hk rfl hκu hμ hH hvirt hs hlc hoc hlen' hlen hroom hsrc hys he
                · have hobj' := hobj
                  simp only [ObjOk] at hobj'
                  obtain ⟨_, _, _, hb⟩ := hobj'
                  rw [if_neg (by simp [hvirt])] at hb
                  obtain ⟨_, hcap, bs, et, fz, pre, mid, post, h1, h2, h3, h4, h5, h6⟩ := hb
                  obtain ⟨c1, cm, c2, e1, l1, l2, r1, _, _⟩ := Reps.drop_take T.szOk hne h4 hlen'
                  obtain ⟨w', μ', g0, g1, g2, g3⟩ := append_new T h hr hn ho hc hargs hts hk rfl hκu (xs := (ds.drop off).take len) (os := cm) hs hlen (by omega) hmax hlx hsrc hys
                    (fun w' hw' => by
                      simp only [Builtin.firstCells]
                      rw [← l2]
                      refine run_loadCells rfl (fun j v hj => ?_)
                      rw [cell_congr (hw' _)]
                      have hcell := block_cells h1 (c1 := pre ++ c1) (y := cm) (c2 := c2 ++ post) (by rw [h2, e1]; simp) j v hj
                      simpa [h3, l1, Nat.add_assoc] using hcell) (by rw [hlx]; exact r1) hd1 hd2.mem
                  rw [hdl] at g3
                  exact wp_value g0 (hn _ _ _ _ _ he g3 g1 ⟨g2.loc, g2.len, Mem.le_trans hd2.mem g2.mem, g2.below, g2.dfr⟩)
              · have hnn : nn = true := by
                  simp only [ObjOk] at hobj
                  obtain ⟨_, _, _, hb⟩ := hobj
                  rw [if_neg (by simp [hvirt])] at hb
                  exact hb.1
                subst hnn
                refine hempty (some ad) (H.set b .dead) (fun ds' => .kill b (.row e0 true true ds')) hs hd1 hd2.mem hdl (by omega) (fun ds' => by simp [Eff.app]) (by simpa using he)
            · simp at he
          · simp at he
        · simp at he
      · simp at he
    · simp at he
  · simp at he
end ops
end
end Go.AM
namespace Go.AM
open Go Go.RowKit
section
variable {P : Program} {ty : Nat → K} {cd : Cd} {X : List Nat} {B0 : Nat} {w0 : World}
section ops
variable {R : Type} {E : Env} {hint : Hint} {μ : List Loc} {H : List AObj} {w : World} {regs : List V} {a : Act} {o : Oper} {k : V → Eff → Option R} {r : R} {next : Act → World → Prop} {Q : Exit → Act → World → Prop}
variable (T : TyOk P E.ty) (h : HOk E.ty P.cellsOf E.rnd X B0 w0 μ H w) (hr : Regs P E.ty (M_ X μ H w) μ regs a.tmps) (hn : Nexts P E.ty E.rnd X B0 w0 μ H w a o.dst k r next)
theorem vals_one {xs : List Operand} {ts : List Nat} {s : V} {t : Nat} (hl : xs.length = ts.length) (h1 : vals regs E.ty xs ts = [s]) (h2 : ts = [t]) : ∃ ao, xs = [ao] ∧ s = val regs (E.ty t) ao := by
  subst h2
  match xs, hl with
  | [ao], _ => simp only [vals, List.cons.injEq, and_true] at h1; exact ⟨ao, rfl, h1.symm⟩
include T h hr hn
theorem op_len {c : Call} (ho : o.op = .call c) (hc : c.callee = .builtin .len) (hl : c.args.toList.length = c.argTypes.toList.length) (he : evLen E H (vals regs E.ty c.args.toList c.argTypes.toList) c.argTypes.toList k = some r) : o.wp P a w next Q := by
  unfold evLen at he
  split at he
  · rename_i v t hvs hts
    obtain ⟨ao, hargs, rfl⟩ := vals_one hl hvs hts
    have hrs := val_ok hr (E.ty t) ao
    have ea : c.argTypes = #[t] := by apply Array.toList_inj.1; rw [hts]
    have eb : c.args.map a.eval = #[a.eval ao] := by apply Array.toList_inj.1; simp [hargs]
    obtain ⟨cs', hex⟩ := run_builtin (a := a) ho hc
    have hfin : ∀ n : Int, (Builtin.len_ #[t] o.type #[a.eval ao]).run P w = .ok (.int .i64 n) w → k (.d (.int .i64) (.int .i64 n)) .none = some r → o.wp P a w next Q := by
      intro n hrun hk
      refine wp_value (x := .int .i64 n) (w' := w) ?_ (hn.same h hk (.inr ⟨.int .i64, by simp [RV, Rep]⟩))
      rw [hex]
      simp only [Go.builtin]
      rw [ea, eb]
      simp only [run_bind, hrun, run_pure]
    split at he
    · rename_i hk
      split at he
      · rename_i d hb
        rw [hb] at hrs
        replace hrs := hrs.resolve_left (by simp)
        obtain ⟨κ0, hrs⟩ := hrs
        simp only [RV] at hrs
        obtain ⟨rfl, hrs⟩ := hrs
        have hx := rep_str hrs
        refine hfin _ ?_ he
        simp only [Builtin.len_, List.getElem?_toArray, List.getElem?_cons_zero, hx]
        simp only [run_bind, run_underlying T (under_str T hk), run_pure, goInt]
      · simp at he
    · rename_i e hk
      have hsl : ∀ ad n cap, a.eval ao = .slice ad n cap → (Builtin.len_ #[t] o.type #[a.eval ao]).run P w = .ok (.int .i64 n) w := by
        intro ad n cap hx
        simp only [Builtin.len_, List.getElem?_toArray, List.getElem?_cons_zero, hx]
        simp only [run_bind, run_underlying T (under_slice T hk), run_pure, goInt]
      split at he
      · rename_i e' d hb
        split at he
        · rename_i hee
          subst hee
          rw [hb] at hrs
          replace hrs := hrs.resolve_left (by simp)
          obtain ⟨κ0, hrs⟩ := hrs
          simp only [RV] at hrs
          obtain ⟨rfl, hrs⟩ := hrs
          cases d with
          | slice nn ds =>
            simp only [Rep] at hrs
            obtain ⟨_, ad, cap, _, hx, _⟩ := hrs
            exact hfin _ (hsl _ _ _ hx) he
          | agg ds => simp [Rep, K.isAgg] at hrs
          | tup _ => simp [Rep] at hrs
          | _ => simp [Rep] at hrs
        · simp at he
      · rename_i e' ds hb
        rw [hb] at hrs
        replace hrs := hrs.resolve_left (by simp)
        obtain ⟨κ0, hrs⟩ := hrs
        simp only [RV] at hrs
        obtain ⟨_, ad, cs, hx, _⟩ := hrs
        exact hfin _ (hsl _ _ _ hx) he
      · rename_i b off n hb
        rw [hb] at hrs
        replace hrs := hrs.resolve_left (by simp)
        obtain ⟨κ0, hrs⟩ := hrs
        simp only [RV] at hrs
        obtain ⟨l, m, e0, _, _, _, _, hx⟩ := hrs
        rcases hx with ⟨_, rfl, ad, hx, _⟩ | ⟨_, cap, hx, _⟩ | ⟨_, rfl, _, ad, hx⟩
        · exact hfin _ (hsl _ _ _ hx) he
        · exact hfin _ (hsl _ _ _ hx) he
        · exact hfin _ (hsl _ _ _ hx) he
      · simp at he
    · rename_i ka ke hk
      split at he
      · rename_i b hb
        split at he
        · rename_i ka' ke' es hH
          rw [hb] at hrs
          replace hrs := hrs.resolve_left (by simp)
          obtain ⟨κ0, hrs⟩ := hrs
          simp only [RV] at hrs
          obtain ⟨l, a', e', hμ, _, _, hx⟩ := hrs
          have hobj := h.obj b l _ hμ hH
          simp only [ObjOk] at hobj
          obtain ⟨_, _, _, ms, hblk, hent⟩ := hobj
          have hlen : ∀ (n : Nat) (es : List (D × D)) (ms : List MapEntry), Entries E.ty (memOf w (X ++ owned μ H)) (E.ty ka') (E.ty ke') n es ms → ms.length = es.length := by
            intro n es
            induction es generalizing n with
            | nil => intro ms hm; simp only [Entries] at hm; subst hm; rfl
            | cons x es ih => intro ms hm; simp only [Entries] at hm; obtain ⟨m, rest, rfl, _, _, _, hm⟩ := hm; simp [ih _ _ hm]
          refine hfin _ ?_ he
          simp only [Builtin.len_, List.getElem?_toArray, List.getElem?_cons_zero, hx]
          simp only [run_bind, run_underlying T (under_map T hk).1, getObj, Sem.run, hblk, run_pure, goInt]
          have := hlen _ _ _ hent
          simp at this
          rw [this]
        · simp at he
      · simp at he
    · rename_i m e hk
      refine hfin _ ?_ he
      simp only [Builtin.len_, List.getElem?_toArray, List.getElem?_cons_zero]
      simp only [run_bind, run_underlying T (under_array T hk).1, run_pure, goInt]
    · simp at he
  · simp at he
omit T h hn in
theorem maxInts_ok (kd : IntKind) (most : Bool) : ∀ (vs : List V) (xs : List Value) (x y : Int), RVt E.ty P.cellsOf (M_ X μ H w) μ vs xs → maxInts kd most x vs = some y →
    (xs.foldlM (if most = true then Builtin.max2 else Builtin.min2) (Value.int kd x)).run P w = .ok (.int kd y) w
  | [], xs, x, y, hx, hm => by
    simp only [RVt] at hx; subst hx
    simp only [maxInts, Option.some.injEq] at hm; subst hm
    simp [run_pure]
  | v :: vs, xs, x, y, hx, hm => by
    simp only [RVt] at hx
    obtain ⟨z, rest, rfl, hz, hrest⟩ := hx
    cases v with
    | d κ d =>
      cases κ with
      | int k' =>
        simp only [maxInts] at hm
        split at hm
        · rename_i hk
          subst hk
          replace hz := hz.resolve_left (by simp)
          obtain ⟨κ0, hz⟩ := hz
          simp only [RV] at hz
          obtain ⟨rfl, hz⟩ := hz
          have := rep_int hz
          subst this
          rw [List.foldlM_cons]
          cases most with
          | true =>
            simp only [if_true, Builtin.max2, run_bind, run_pure]
            simpa using maxInts_ok k' true vs rest _ y hrest (by simpa using hm)
          | false =>
            simp only [Bool.false_eq_true, if_false, Builtin.min2, run_bind, run_pure]
            simpa using maxInts_ok k' false vs rest _ y hrest (by simpa using hm)
        · simp at hm
      | _ => simp [maxInts] at hm
    | _ => simp [maxInts] at hm
omit T h hn in
theorem RVt.of_vals' : ∀ (xs : List Operand) (ts : List Nat), xs.length = ts.length → RVt E.ty P.cellsOf (M_ X μ H w) μ (vals regs E.ty xs ts) (xs.map a.eval)
  | [], [], _ => by simp [vals, RVt]
  | x :: xs, t :: ts, hl => by
    simp only [vals, List.map_cons, RVt]
    exact ⟨_, _, rfl, val_ok hr _ _, RVt.of_vals' xs ts (by simpa using hl)⟩
  | [], _ :: _, hl => by simp at hl
  | _ :: _, [], hl => by simp at hl
omit T in
theorem op_maxmin {c : Call} {most : Bool} (ho : o.op = .call c) (hc : c.callee = .builtin (if most = true then .max else .min)) (hl : c.args.toList.length = c.argTypes.toList.length) (he : evMaxMin most (vals regs E.ty c.args.toList c.argTypes.toList) k = some r) : o.wp P a w next Q := by
  unfold evMaxMin at he
  split at he
  · rename_i kd d vs hvs
    split at he
    · rename_i n hn'
      have hall := RVt.of_vals' hr c.args.toList c.argTypes.toList hl
      rw [hvs] at hall
      simp only [RVt] at hall
      obtain ⟨z, rest, hxs, hz, hrest⟩ := hall
      replace hz := hz.resolve_left (by simp)
      obtain ⟨κ0, hz⟩ := hz
      simp only [RV] at hz
      obtain ⟨rfl, hz⟩ := hz
      have := rep_int hz
      subst this
      have hm := maxInts_ok hr kd most vs rest d.i n hrest hn'
      obtain ⟨cs', hex⟩ := run_builtin (a := a) ho hc
      have eb : (c.args.map a.eval).toList = .int kd d.i :: rest := by simp [hxs]
      refine wp_value (x := .int kd n) (w' := w) ?_ (hn.same h he (.inr ⟨.int kd, by simp [RV, Rep]⟩))
      rw [hex]
      cases most with
      | true =>
        simp only [if_true, Go.builtin, Builtin.max_]
        rw [eb]
        simp only [if_true] at hm
        simp only [run_bind, hm, run_pure]
      | false =>
        simp only [Bool.false_eq_true, if_false, Go.builtin, Builtin.min_]
        rw [eb]
        simp only [Bool.false_eq_true, if_false] at hm
        simp only [run_bind, hm, run_pure]
    · simp at he
  · simp at he
theorem op_range {t : Nat} {x : Operand} (ho : o.op = .range t x) (he : evOp E hint H regs o.type (.range t x) k = some r) : o.wp P a w next Q := by
  simp only [evOp] at he
  have hv := val_ok hr (E.ty t) x
  split at he
  · rename_i d hk hb
    rw [hb] at hv
    replace hv := hv.resolve_left (by simp)
    obtain ⟨κ0, hv⟩ := hv
    simp only [RV] at hv
    obtain ⟨rfl, hv⟩ := hv
    have hx := rep_str hv
    obtain ⟨h1, h2⟩ := HOk.newAt h (l := ⟨w.heap.size, 0, 0, .bad, false, false⟩) (o := .iter d.s 0) (below_push (o := .stringIter d.s 0)) (fun b hb => by simp [usesB] at hb; omega) (fun M' hM => by
      simp [ObjOk])
    refine wp_value (x := .pointer (some ⟨w.heap.size, 0, none⟩)) ?_ (hn _ _ _ _ _ he (.inr ⟨.bad, ?_⟩) h1 h2)
    · simp only [execOp, ho, Instr.range, hx]
      simp only [run_bind, run_underlying T (under_str T hk), run_pure, newObj, Sem.run]
    · simp only [RV]
      refine ⟨trivial, ⟨w.heap.size, 0, 0, .bad, false, false⟩, ?_, rfl, rfl⟩
      rw [← h.len]; simp
  · simp at he
omit T in
theorem op_next {x : Operand} {b : Bool} (ho : o.op = .next x b) (he : evOp E hint H regs o.type (.next x b) k = some r) : o.wp P a w next Q := by
  simp only [evOp] at he
  have hv := val_ok hr .bad x
  split at he
  · rename_i bi hb
    rw [hb] at hv
    replace hv := hv.resolve_left (by simp)
    obtain ⟨κ0, hv⟩ := hv
    simp only [RV] at hv
    obtain ⟨_, l, hμ, _, hx⟩ := hv
    split at he
    · rename_i s pos hH
      have hobj := h.obj bi l _ hμ hH
      simp only [ObjOk] at hobj
      cases hp : decide (pos < s.size) with
      | true =>
        rw [hp] at he
        simp only [] at he
        have hpos : pos < s.size := by simpa using hp
        obtain ⟨h1, h2⟩ := HOk.put h (o' := .iter s (pos + (Utf8.decode s pos).2)) (obj := .stringIter s (pos + (Utf8.decode s pos).2)) hμ hH rfl rfl (by
          simp only [ObjOk]
          rw [putBlk_heap, if_pos ⟨rfl, lt_of_block hobj⟩])
        refine wp_value (x := .tuple #[.bool true, .int .i64 pos, .int .i32 (Utf8.decode s pos).1]) ?_ (hn _ _ _ _ _ he (.inr ⟨.bad, ?_⟩) h1 h2)
        · simp only [execOp, ho, Instr.next, hx]
          simp only [run_bind, getObj, setObj, Sem.run, hobj, run_pure, hpos, if_true, goInt, putBlk]
        · simp only [RV]
          refine ⟨trivial, _, rfl, ?_⟩
          simp [RVt, RV, Rep]
      | false =>
        rw [hp] at he
        simp only [] at he
        have hpos : ¬ pos < s.size := by simpa using hp
        refine wp_value (x := .tuple #[.bool false]) (w' := w) ?_ (hn.same h he (.inr ⟨.bad, ?_⟩))
        · simp only [execOp, ho, Instr.next, hx]
          simp only [run_bind, getObj, Sem.run, hobj, run_pure, hpos, if_false]
        · simp only [RV]
          refine ⟨trivial, _, rfl, ?_⟩
          simp [RVt, RV, Rep]
    · simp at he
  · simp at he
end ops
end
end Go.AM
namespace Go.AM
open Go Go.RowKit
section
variable {P : Program} {ty : Nat → K} {cd : Cd} {X : List Nat} {B0 : Nat} {w0 : World}
section ops
variable {R : Type} {E : Env} {hint : Hint} {μ : List Loc} {H : List AObj} {w : World} {regs : List V} {a : Act} {o : Oper} {k : V → Eff → Option R} {r : R} {next : Act → World → Prop} {Q : Exit → Act → World → Prop}
variable (T : TyOk P E.ty) (h : HOk E.ty P.cellsOf E.rnd X B0 w0 μ H w) (hr : Regs P E.ty (M_ X μ H w) μ regs a.tmps) (hn : Nexts P E.ty E.rnd X B0 w0 μ H w a o.dst k r next)
include T h hr hn
theorem op_clear {c : Call} (ho : o.op = .call c) (hc : c.callee = .builtin .clear) (hl : c.args.toList.length = c.argTypes.toList.length) (he : evClear E H (vals regs E.ty c.args.toList c.argTypes.toList) c.argTypes.toList k = some r) : o.wp P a w next Q := by
  unfold evClear at he
  split at he
  · rename_i b off len t hvs hts
    obtain ⟨ao, hargs, hb⟩ := vals_one hl hvs hts
    have hrs := val_ok hr (E.ty t) ao
    split at he
    · rename_i e hk
      have hne := under_slice_ne T hk
      split at he
      · rename_i e' nn ds hH
        split at he
        · rename_i hee
          subst hee
          have ea : c.argTypes = #[t] := by apply Array.toList_inj.1; rw [hts]
          have eb : c.args.map a.eval = #[a.eval ao] := by apply Array.toList_inj.1; simp [hargs]
          rw [← hb] at hrs
          replace hrs := hrs.resolve_left (by simp)
          obtain ⟨κ0, hrs⟩ := hrs
          simp only [RV] at hrs
          obtain ⟨l, n, e0, hμ, hl', hκ0, hlen', hx⟩ := hrs
          obtain ⟨rfl, rfl⟩ := row_loc h hH hμ hl'
          have hfin : ∀ w' : World, (Builtin.clear_ c.argTypes o.type (c.args.map a.eval)).run P w = .ok (.tuple #[]) w' → (execOp a.eval o).run P w = .ok (.value (.tuple #[])) w' := by
            intro w' hrun
            obtain ⟨cs', hex⟩ := run_builtin (a := a) ho hc
            rw [hex]
            simp only [Go.builtin, run_bind, hrun, run_pure]
          have hnil : ∀ {base : Option Addr} {cap : Nat}, a.eval ao = .slice base 0 cap → len = 0 → o.wp P a w next Q := by
            intro base cap hs hy
            subst hy
            have hset : H.set b (.row e0 true nn (ds.take off ++ List.replicate 0 (zero E.ty (E.ty e0)) ++ ds.drop (off + 0))) = H := by
              rw [List.replicate_zero, List.append_nil, Nat.add_zero, List.take_append_drop]
              exact List.set_getElem?_self_of hH
            refine wp_value (hfin w ?_) (hn _ _ μ w _ he (.inl rfl) ?_ ?_)
            · rw [ea, eb, hs]
              simp only [Builtin.clear_]
              cases base <;> simp [run_bind, run_underlying T (under_slice T hk), run_pure]
            · simp only [Eff.app]; rw [hset]; exact h
            · simp only [Eff.app]; rw [hset]; exact Fut.refl h
          rcases hx with ⟨hvirt, hl0, ad, hs, ha⟩ | ⟨hvirt, cap, hs, hlc, hoc, hreach⟩ | ⟨hvirt, hl0, hreach, ad, hs⟩
          · exact hnil hs hl0
          · by_cases hl0 : len = 0
            · exact hnil (hl0 ▸ hs) hl0
            · obtain ⟨z, hz, hzr⟩ := run_zeroValue T hne w
              have hys : Reps E.ty (M_ X μ H w) (List.replicate len (zero E.ty (E.ty e0))) (List.replicate (List.replicate len (zero E.ty (E.ty e0))).length (E.ty e0)) (List.replicate len z.cells.toList).flatten := by
                rw [List.length_replicate]; exact reps_zero (hzr _) len
              obtain ⟨w', hst, g1, g2⟩ := splice_ok T h hμ hH hvirt (p := off) hys (by simpa using hlen')
              rw [List.length_replicate] at g1 g2
              refine wp_value (hfin w' ?_) (hn _ _ _ _ _ he (.inl rfl) g1 g2)
              rw [ea, eb, hs]
              simp only [Builtin.clear_]
              obtain ⟨n, rfl⟩ : ∃ n, len = n + 1 := ⟨len - 1, by omega⟩
              have hzc : (Builtin.zeroCells z.cells (n + 1)).toList = (List.replicate (n + 1) z.cells.toList).flatten := by
                rw [← zero_cells]; simp [Builtin.zeroCells]
              simp [run_bind, run_underlying T (under_slice T hk), hz, hzc, hst, run_pure]
          · exact hnil hs hl0
        · simp at he
      · simp at he
    · simp at he
  · simp at he
theorem op_copy {c : Call} (ho : o.op = .call c) (hc : c.callee = .builtin .copy) (hl : c.args.toList.length = c.argTypes.toList.length) (he : evCopy E H (vals regs E.ty c.args.toList c.argTypes.toList) c.argTypes.toList k = some r) : o.wp P a w next Q := by
  unfold evCopy at he
  split at he
  · rename_i b off len x t u hvs hts
    obtain ⟨ao, bo, hargs, hb, rfl⟩ := vals_two hl hvs hts
    have hrs := val_ok hr (E.ty t) ao
    split at he
    · rename_i e hk
      have hne := under_slice_ne T hk
      split at he
      · rename_i ys hlit
        have hrx := val_ok hr (E.ty u) bo
        obtain ⟨hlen, ⟨cs, hsrc, hys⟩, hκu⟩ := src_ok' T h hrx hlit
        split at he
        · rename_i e' nn ds hH
          split at he
          · rename_i hee
            subst hee
            have ea : c.argTypes = #[t, u] := by apply Array.toList_inj.1; rw [hts]
            have eb : c.args.map a.eval = #[a.eval ao, a.eval bo] := by apply Array.toList_inj.1; simp [hargs]
            rw [← hb] at hrs
            replace hrs := hrs.resolve_left (by simp)
            obtain ⟨κ0, hrs⟩ := hrs
            simp only [RV] at hrs
            obtain ⟨l, n, e0, hμ, hl', hκ0, hlen', hx⟩ := hrs
            obtain ⟨rfl, rfl⟩ := row_loc h hH hμ hl'
            have hcsl : cs.length = ys.length * P.cellsOf e0 := by
              have := (Reps.size T.szOk _ _ _ hys).2 (List.replicate ys.length e0) (by simp)
              simpa using this
            have hfin : ∀ (m : Nat) (w' : World), (Builtin.copy_ c.argTypes o.type (c.args.map a.eval)).run P w = .ok (.int .i64 m) w' → (execOp a.eval o).run P w = .ok (.value (.int .i64 m)) w' := by
              intro m w' hrun
              obtain ⟨cs', hex⟩ := run_builtin (a := a) ho hc
              rw [hex]
              simp only [Go.builtin, run_bind, hrun, run_pure]
            have hrunc : ∀ {base : Option Addr} {cap : Nat} {w' : World}, a.eval ao = .slice base len cap → (match base with | some ad => (storeCells ad (cs.take (min ys.length len * P.cellsOf e0))).run P w = .ok () w' | none => w = w') →
                (Builtin.copy_ c.argTypes o.type (c.args.map a.eval)).run P w = .ok (.int .i64 (min ys.length len : Nat)) w' := by
              intro base cap w' hs hst
              rw [ea, eb, hs]
              have h1 := hsrc w (fun _ => rfl) (min ys.length len) (Nat.min_le_left _ _)
              cases base with
              | none =>
                simp only at hst
                subst hst
                simp [Builtin.copy_, run_bind, run_underlying T (under_slice T hk), hlen, run_sizeOf T hne, h1, run_pure, goInt]
              | some ad =>
                simp only at hst
                simp [Builtin.copy_, run_bind, run_underlying T (under_slice T hk), hlen, run_sizeOf T hne, h1, hst, run_pure, goInt]
            have hnil : ∀ {base : Option Addr} {cap : Nat}, a.eval ao = .slice base 0 cap → len = 0 → o.wp P a w next Q := by
              intro base cap hs hy
              subst hy
              have hset : H.set b (.row e0 true nn (ds.take off ++ ys.take (min ys.length 0) ++ ds.drop (off + min ys.length 0))) = H := by
                rw [Nat.min_zero, List.take_zero, List.append_nil, Nat.add_zero, List.take_append_drop]
                exact List.set_getElem?_self_of hH
              refine wp_value (hfin _ w (hrunc hs ?_)) (hn _ _ μ w _ he (.inr ⟨.int .i64, by simp [RV, Rep]⟩) ?_ ?_)
              · cases base <;> simp [storeCells, run_pure]
              · simp only [Eff.app]; rw [hset]; exact h
              · simp only [Eff.app]; rw [hset]; exact Fut.refl h
            rcases hx with ⟨hvirt, hl0, ad, hs, ha⟩ | ⟨hvirt, cap, hs, hlc, hoc, hreach⟩ | ⟨hvirt, hl0, hreach, ad, hs⟩
            · exact hnil hs hl0
            · have hm : min ys.length len ≤ ys.length := Nat.min_le_left _ _
              have hm2 : min ys.length len ≤ len := Nat.min_le_right _ _
              have hty : (ys.take (min ys.length len)).length = min ys.length len := by simp
              obtain ⟨c1, cm, c2, e1, l1, l2, r1, r0, r2⟩ := Reps.drop_take T.szOk hne hys (i := 0) (n := min ys.length len) (by omega)
              have hc10 : c1 = [] := List.eq_nil_of_length_eq_zero (by simpa using l1)
              subst hc10
              have hcm : cm = cs.take (min ys.length len * P.cellsOf e0) := by
                rw [e1, ← l2]; simp
              have hys' : Reps E.ty (M_ X μ H w) (ys.take (min ys.length len)) (List.replicate (ys.take (min ys.length len)).length (E.ty e0)) (cs.take (min ys.length len * P.cellsOf e0)) := by
                rw [hty, ← hcm]; simpa using r1
              obtain ⟨w', hst, g1, g2⟩ := splice_ok T h hμ hH hvirt (p := off) hys' (by rw [hty]; omega)
              rw [hty] at g1 g2
              exact wp_value (hfin _ w' (hrunc hs hst)) (hn _ _ _ _ _ he (.inr ⟨.int .i64, by simp [RV, Rep]⟩) g1 g2)
            · exact hnil hs hl0
          · simp at he
        · simp at he
      · simp at he
    · simp at he
  · simp at he
end ops
end
end Go.AM
namespace Go.AM
open Go Go.RowKit
section
variable {P : Program} {ty : Nat → K} {cd : Cd} {X : List Nat} {B0 : Nat} {w0 : World}
theorem Entries.length {M : Mem} {κa κe : K} : ∀ {n : Nat} {es : List (D × D)} {ms : List MapEntry}, Entries ty M κa κe n es ms → ms.length = es.length
  | _, [], _, h => by simp only [Entries] at h; subst h; rfl
  | n, x :: es, ms, h => by
    simp only [Entries] at h
    obtain ⟨m, rest, rfl, _, _, _, h⟩ := h
    simp [Entries.length h]
theorem Entries.get {M : Mem} {κa κe : K} : ∀ {n : Nat} {es : List (D × D)} {ms : List MapEntry}, Entries ty M κa κe n es ms → ∀ {i : Nat} {x : D × D}, es[i]? = some x → ∃ m, ms[i]? = some m ∧ Rep ty M x.1 κa m.key ∧ Rep ty M x.2 κe m.val ∧ m.born = n + i
  | _, [], _, h, i, x, hx => by simp at hx
  | n, y :: es, ms, h, i, x, hx => by
    simp only [Entries] at h
    obtain ⟨m, rest, rfl, h1, h2, h3, h4⟩ := h
    cases i with
    | zero => simp only [List.getElem?_cons_zero, Option.some.injEq] at hx; subst hx; exact ⟨m, rfl, h1, h2, by simpa using h3⟩
    | succ i =>
      obtain ⟨m', g1, g2, g3, g4⟩ := Entries.get h4 (i := i) (by simpa using hx)
      exact ⟨m', by simpa using g1, g2, g3, by omega⟩
theorem Entries.append {M : Mem} {κa κe : K} {x : D × D} {m : MapEntry} (h1 : Rep ty M x.1 κa m.key) (h2 : Rep ty M x.2 κe m.val) : ∀ {n : Nat} {es : List (D × D)} {ms : List MapEntry}, Entries ty M κa κe n es ms → m.born = n + es.length → Entries ty M κa κe n (es ++ [x]) (ms ++ [m])
  | n, [], ms, h, hb => by
    simp only [Entries] at h; subst h
    simp only [List.nil_append, Entries]
    exact ⟨m, [], rfl, h1, h2, by simpa using hb, rfl⟩
  | n, y :: es, ms, h, hb => by
    simp only [Entries] at h
    obtain ⟨m', rest, rfl, g1, g2, g3, g4⟩ := h
    simp only [List.cons_append, Entries]
    exact ⟨m', _, rfl, g1, g2, g3, Entries.append h1 h2 g4 (by simp at hb; omega)⟩
theorem Entries.set {M : Mem} {κa κe : K} {x : D × D} {f : MapEntry → MapEntry} : ∀ {n : Nat} {es : List (D × D)} {ms : List MapEntry} {i : Nat}, Entries ty M κa κe n es ms → (∀ m, ms[i]? = some m → Rep ty M x.1 κa (f m).key ∧ Rep ty M x.2 κe (f m).val ∧ (f m).born = m.born) → Entries ty M κa κe n (es.set i x) (ms.modify i f)
  | n, [], ms, i, h, _ => by simp only [Entries] at h; subst h; simp [Entries]
  | n, y :: es, ms, i, h, hf => by
    simp only [Entries] at h
    obtain ⟨m', rest, rfl, g1, g2, g3, g4⟩ := h
    cases i with
    | zero =>
      obtain ⟨k1, k2, k3⟩ := hf m' (by simp)
      simp only [List.set_cons_zero, List.modify_zero_cons, Entries]
      exact ⟨f m', rest, rfl, k1, k2, by rw [k3]; exact g3, g4⟩
    | succ i =>
      simp only [List.set_cons_succ, List.modify_succ_cons, Entries]
      exact ⟨m', _, rfl, g1, g2, g3, Entries.set g4 (fun m hm => hf m (by simpa using hm))⟩
theorem sameNow_ok {M M' : Mem} {κ : K} {x y : D} {u v : Value} {d : TypeDesc} (hk : keyK κ = true) (hd : match κ with | .int k => d = .int k | _ => True) (hx : Rep ty M x κ u) (hy : Rep ty M' y κ v) :
    Instr.sameNow d u v = some (keyEq κ x y) ∧ (keyEq κ x y = true → u = v) := by
  cases κ with
  | int k =>
    simp only at hd
    subst hd
    have h1 := rep_int hx
    have h2 := rep_int hy
    subst h1 h2
    simp only [Instr.sameNow, keyEq]
    refine ⟨by simp, fun h => ?_⟩
    have : x.i = y.i := by simpa using h
    rw [this]
  | _ => simp [keyK] at hk
theorem findNow_ok {M M' : Mem} {κ κe : K} {x : D} {u : Value} {d : TypeDesc} (hk : keyK κ = true) (hd : match κ with | .int k => d = .int k | _ => True) (hx : Rep ty M x κ u) :
    ∀ {n : Nat} {es : List (D × D)} {ms : List MapEntry} (i : Nat), Entries ty M' κ κe n es ms → ∀ q, PlaceOk κ x es q →
      (match q with
        | none => Instr.findNow d u ms i = some none
        | some j => ∃ m, ms[j]? = some m ∧ Instr.findNow d u ms i = some (some (i + j, m.val)) ∧ m.key = u)
  | n, [], ms, i, h, q, hq => by
    simp only [Entries] at h; subst h
    cases q with
    | none => rfl
    | some j => obtain ⟨e, he, _⟩ := hq; simp at he
  | n, e :: es, ms, i, h, q, hq => by
    simp only [Entries] at h
    obtain ⟨m, rest, rfl, g1, g2, g3, g4⟩ := h
    obtain ⟨s1, s2⟩ := sameNow_ok hk hd hx g1
    cases q with
    | none =>
      have he : keyEq κ x e.1 = false := hq e (by simp)
      rw [he] at s1
      simp only [Instr.findNow, s1]
      exact findNow_ok hk hd hx (i + 1) g4 none (fun e' h' => hq e' (by simp [h']))
    | some j =>
      obtain ⟨e', he', hke, hlt⟩ := hq
      cases j with
      | zero =>
        simp only [List.getElem?_cons_zero, Option.some.injEq] at he'
        subst he'
        rw [hke] at s1
        refine ⟨m, by simp, ?_, (s2 hke).symm⟩
        simp only [Instr.findNow, s1, Nat.add_zero]
      | succ j =>
        have he : keyEq κ x e.1 = false := hlt 0 e (by omega) (by simp)
        rw [he] at s1
        obtain ⟨m', k1, k2, k3⟩ := findNow_ok hk hd hx (i + 1) g4 (some j) ⟨e', by simpa using he', hke, fun j' e'' hj h'' => hlt (j' + 1) e'' (by omega) (by simpa using h'')⟩
        refine ⟨m', by simpa using k1, ?_, k3⟩
        simp only [Instr.findNow, s1]
        rw [k2]
        congr 2
        simp; omega
theorem run_checkKey {t : Nat} {κ : K} (T : TyOk P ty) (ht : ty t = κ) (hk : keyK κ = true) {b : Bool} {n : Nat} {v : Value} (w : World) : (Instr.checkKey b (n + 1) t v).run P w = .ok () w := by
  cases κ with
  | int k => simp only [Instr.checkKey, run_bind, run_underlying T (under_int T ht), run_pure]
  | _ => simp [keyK] at hk
theorem run_findKey {t : Nat} {κ κe : K} (T : TyOk P ty) (ht : ty t = κ) (hk : keyK κ = true) {M M' : Mem} {x : D} {u : Value} (hx : Rep ty M x κ u) {es : List (D × D)} {ms : List MapEntry} (he : Entries ty M' κ κe 0 es ms) {q : Option Nat} (hq : PlaceOk κ x es q) (w : World) :
    match q with
    | none => (Instr.findKey t u ms).run P w = .ok none w
    | some j => ∃ m, ms[j]? = some m ∧ (Instr.findKey t u ms).run P w = .ok (some (j, m.val)) w ∧ m.key = u := by
  cases κ with
  | int k =>
    have hd := under_int T ht
    have h := findNow_ok (d := .int k) hk rfl hx 0 he q hq
    cases q with
    | none => simp only [Instr.findKey, run_bind, run_underlying T hd, h, run_pure]
    | some j =>
      obtain ⟨m, h1, h2, h3⟩ := h
      exact ⟨m, h1, by simp only [Instr.findKey, run_bind, run_underlying T hd, h2, run_pure, Nat.zero_add], h3⟩
  | _ => simp [keyK] at hk
variable {R : Type} {E : Env} {hint : Hint} {μ : List Loc} {H : List AObj} {w : World} {regs : List V} {a : Act} {o : Oper} {k : V → Eff → Option R} {r : R} {next : Act → World → Prop} {Q : Exit → Act → World → Prop}
variable (T : TyOk P E.ty) (h : HOk E.ty P.cellsOf E.rnd X B0 w0 μ H w) (hr : Regs P E.ty (M_ X μ H w) μ regs a.tmps) (hn : Nexts P E.ty E.rnd X B0 w0 μ H w a o.dst k r next)
include T h hr hn
theorem op_makeMap {t : Nat} {x : Option Operand} (ho : o.op = .makeMap t x) (he : evOp E hint H regs o.type (.makeMap t x) k = some r) : o.wp P a w next Q := by
  simp only [evOp] at he
  split at he
  · rename_i ka e hk
    obtain ⟨_, hka, hke⟩ := under_map T hk
    obtain ⟨h1, h2⟩ := HOk.newAt h (l := ⟨w.heap.size, 0, 0, .map ka e, false, false⟩) (o := .map ka e []) (below_push (o := .map #[] 0)) (fun b hb => by simp [usesB] at hb; omega) (fun M' hM => by
      simp only [ObjOk]
      exact ⟨trivial, hka, hke, #[], by simp, by simp [Entries]⟩)
    refine wp_value (x := .map (some w.heap.size)) ?_ (hn _ _ _ _ _ he (.inr ⟨.map ka e, ?_⟩) h1 h2)
    · simp only [execOp, ho, Instr.makeMap]
      simp only [run_bind, run_pure, newObj, Sem.run]
      simp [Sem.run]
    · simp only [RV]
      refine ⟨⟨w.heap.size, 0, 0, .map ka e, false, false⟩, ka, e, ?_, rfl, rfl, rfl⟩
      rw [← h.len]; simp
  · simp at he
theorem op_insert {t : Nat} {m key v : Operand} (ho : o.op = .insert t m key v ∨ o.op = .mapUpdate t m key v) (he : evInsert E H regs t m key v k = some r) : o.wp P a w next Q := by
  unfold evInsert at he
  split at he
  · rename_i ka e b hk hm
    split at he
    · rename_i ka' e' es hH
      split at he
      · rename_i κ x κ' y hx hy
        split at he
        · rename_i hc
          obtain ⟨rfl, rfl, rfl, rfl, hkk⟩ := hc
          obtain ⟨q, hq, hpl⟩ := assocK_ok [] es (by simp) he
          simp only [List.nil_append] at hpl
          have hv := val_ok hr (E.ty t) m
          rw [hm] at hv
          replace hv := hv.resolve_left (by simp)
          obtain ⟨κ0, hv⟩ := hv
          simp only [RV] at hv
          obtain ⟨l, a1, e1, hμ, hl, _, hmv⟩ := hv
          have hobj := h.obj b l _ hμ hH
          simp only [ObjOk] at hobj
          obtain ⟨_, hka, hke, ms, hblk, hes⟩ := hobj
          have hxr := val_ok hr (E.ty ka') key
          rw [hx] at hxr
          replace hxr := hxr.resolve_left (by simp)
          obtain ⟨κ1, hxr⟩ := hxr
          simp only [RV] at hxr
          obtain ⟨rfl, hxr⟩ := hxr
          have hyr := val_ok hr (E.ty e') v
          rw [hy] at hyr
          replace hyr := hyr.resolve_left (by simp)
          obtain ⟨κ2, hyr⟩ := hyr
          simp only [RV] at hyr
          obtain ⟨rfl, hyr⟩ := hyr
          obtain ⟨hu, _, _⟩ := under_map T hk
          have hmsl := hes.length
          have hlt := lt_of_block hblk
          have hfind := run_findKey T rfl hkk hxr hes hpl w
          have hrun : ∃ ms' c', (Instr.mapUpdate t (.map (some l.blk)) (a.eval key) (a.eval v)).run P w = .ok () (putBlk w l.blk (.map ms' c')) ∧ c' = (entrySet es x y q).length ∧ Entries E.ty (memOf w (X ++ owned μ H)) (E.ty ka') (E.ty e') 0 (entrySet es x y q) ms'.toList := by
            cases q with
            | none =>
              refine ⟨ms.push { key := a.eval key, val := a.eval v, born := es.length }, es.length + 1, ?_, by simp [entrySet], ?_⟩
              · simp only [Instr.mapUpdate, run_bind, run_underlying T hu, getObj, setObj, Sem.run, hblk, run_checkKey T rfl hkk, hfind, run_pure, putBlk]
              · simp only [entrySet, Array.toList_push]
                exact Entries.append hxr hyr hes (by simp)
            | some j =>
              obtain ⟨mm, g1, g2, g3⟩ := hfind
              obtain ⟨en, hen, _, _⟩ := hpl
              have hj : j < es.length := (List.getElem?_eq_some_iff.1 hen).1
              have hmj : ms[j]? = some mm := by rw [← Array.getElem?_toList]; exact g1
              refine ⟨ms.modify j fun e => { e with key := a.eval key, val := a.eval v }, es.length, ?_, by simp [entrySet], ?_⟩
              · simp only [Instr.mapUpdate, run_bind, run_underlying T hu, getObj, setObj, Sem.run, hblk, run_checkKey T rfl hkk, g2, run_pure, putBlk]
                have hstay : (Instr.keyThatStays (((ms[j]?).map (·.key)).getD (a.eval key)) (a.eval key)).run P w = .ok (a.eval key) w := by
                  rw [hmj]
                  simp only [Option.map_some, Option.getD_some, g3, Instr.keyThatStays]
                  have hsame : Instr.sameBits 10000 (a.eval key) (a.eval key) = true := by
                    cases hκ : E.ty ka' with
                    | int kk => rw [hκ] at hxr; rw [rep_int hxr]; simp [Instr.sameBits]
                    | _ => rw [hκ] at hkk; simp [keyK] at hkk
                  rw [if_pos hsame]
                  exact run_pure ..
                simp only [hstay, run_bind, run_pure, getObj, setObj, Sem.run, hblk]
              · simp only [entrySet, Array.toList_modify]
                exact Entries.set hes (fun m0 hm0 => ⟨hxr, hyr, rfl⟩)
          obtain ⟨ms', c', hr1, hc', hes'⟩ := hrun
          obtain ⟨h1, h2⟩ := HOk.put h (o' := .map ka' e' (entrySet es x y q)) (obj := .map ms' c') hμ hH rfl rfl (by
            simp only [ObjOk]
            exact ⟨by rw [hl]; first | rfl | (have := h.obj b l _ hμ hH; simp only [ObjOk] at this; rw [← hl]; exact this.1), hka, hke, ms', by rw [putBlk_heap, if_pos ⟨rfl, hlt⟩, hc'], hes'⟩)
          refine wp_skip' (w' := putBlk w l.blk (.map ms' c')) ?_ (hn _ _ _ _ _ hq (.inl rfl) h1 h2)
          rcases ho with ho | ho
          · simp only [execOp, ho, hmv, run_bind, hr1, run_pure]
          · simp only [execOp, ho, hmv, run_bind, hr1, run_pure]
        · simp at he
      · simp at he
    · simp at he
  · simp at he
theorem op_lookup {t : Nat} {m key : Operand} {ok : Bool} (ho : o.op = .lookup t m key ok) (he : evLookup E H regs t m key ok k = some r) : o.wp P a w next Q := by
  unfold evLookup at he
  split at he
  · rename_i ka e b hk hm
    split at he
    · rename_i ka' e' es hH
      split at he
      · rename_i κ x hx
        split at he
        · rename_i hc
          obtain ⟨rfl, rfl, rfl, hkk⟩ := hc
          obtain ⟨q, hq, hpl⟩ := assocK_ok [] es (by simp) he
          simp only [List.nil_append] at hpl
          have hv := val_ok hr (E.ty t) m
          rw [hm] at hv
          replace hv := hv.resolve_left (by simp)
          obtain ⟨κ0, hv⟩ := hv
          simp only [RV] at hv
          obtain ⟨l, a1, e1, hμ, hl, _, hmv⟩ := hv
          have hobj := h.obj b l _ hμ hH
          simp only [ObjOk] at hobj
          obtain ⟨_, hka, hke, ms, hblk, hes⟩ := hobj
          have hxr := val_ok hr (E.ty ka') key
          rw [hx] at hxr
          replace hxr := hxr.resolve_left (by simp)
          obtain ⟨κ1, hxr⟩ := hxr
          simp only [RV] at hxr
          obtain ⟨rfl, hxr⟩ := hxr
          obtain ⟨hu, _, _⟩ := under_map T hk
          have hfind := run_findKey T rfl hkk hxr hes hpl w
          obtain ⟨z, hz, hzr⟩ := run_zeroValue T hke w
          have hrun : ∃ y, (Instr.lookup t (.map (some l.blk)) (a.eval key) ok).run P w = .ok (if ok = true then .tuple #[y, .bool q.isSome] else y) w ∧ Rep E.ty (M_ X μ H w) (entryVal es (zero E.ty (E.ty e')) q) (E.ty e') y := by
            cases q with
            | none =>
              refine ⟨z, ?_, hzr _⟩
              simp only [Instr.lookup, run_bind, run_underlying T hu, getObj, Sem.run, hblk, run_checkKey T rfl hkk, hfind, hz, run_pure, Option.isSome_none]
            | some j =>
              obtain ⟨mm, g1, g2, g3⟩ := hfind
              obtain ⟨en, hen, _, _⟩ := hpl
              obtain ⟨m', k1, k2, k3, k4⟩ := hes.get hen
              rw [g1] at k1
              simp only [Option.some.injEq] at k1
              subst k1
              refine ⟨mm.val, ?_, by simp only [entryVal, hen]; exact k3⟩
              simp only [Instr.lookup, run_bind, run_underlying T hu, getObj, Sem.run, hblk, run_checkKey T rfl hkk, g2, run_pure, Option.isSome_some]
          obtain ⟨y, hr1, hyr⟩ := hrun
          cases ok with
          | true =>
            simp only [cond_true] at hq
            refine wp_value (x := .tuple #[y, .bool q.isSome]) (w' := w) ?_ (hn.same h hq (.inr ⟨.bad, ?_⟩))
            · simp only [execOp, ho, hmv, run_bind, hr1, run_pure]; rfl
            · simp only [RV]
              refine ⟨trivial, _, rfl, ?_⟩
              simp only [RVt]
              refine ⟨y, _, rfl, .inr ⟨E.ty e', by simp only [RV]; exact ⟨trivial, hyr⟩⟩, .bool q.isSome, [], rfl, .inr ⟨.bool, by simp [RV, Rep]⟩, rfl⟩
          | false =>
            simp only [cond_false] at hq
            refine wp_value (x := y) (w' := w) ?_ (hn.same h hq (.inr ⟨E.ty e', by simp only [RV]; exact ⟨trivial, hyr⟩⟩))
            simp only [execOp, ho, hmv, run_bind, hr1, run_pure]; rfl
        · simp at he
      · simp at he
    · simp at he
  · simp at he
end
end Go.AM
namespace Go.AM
open Go Go.RowKit
section
variable {P : Program} {ty : Nat → K}
def ResRep (ty : Nat → K) (M : Mem) (ts : List Nat) (r : D) (v : Value) : Prop :=
  match ts with
  | [t] => Rep ty M r (ty t) v
  | ts => ∃ ds xs, r = .tup ds ∧ v = .tuple xs ∧ Each ty M ds (ts.map ty) xs.toList
def FreshRep (P : Program) (ty : Nat → K) (X : List Nat) (w w' : World) (ts : List Nat) (r : D) (v : Value) : Prop :=
  (∃ t a e es blk ms, ts = [t] ∧ ty t = .map a e ∧ r = .slice true (es.map fun p : D × D => .tup [p.1, p.2]) ∧ v = .map (some blk) ∧ w.heap.size ≤ blk ∧ w'.heap[blk]? = some (.map ms es.length) ∧
    Entries ty (memOf w' (X ++ [blk])) (ty a) (ty e) 0 es ms.toList) ∨
  ∃ t e nn ds, ts = [t] ∧ ty t = .slice e ∧ r = .slice nn ds ∧
    ((ds = [] ∧ ∃ a, v = .slice a 0 0 ∧ a.isSome = nn) ∨
     (nn = true ∧ ∃ blk base cap cs et fz pre mid post, w.heap.size ≤ blk ∧ v = .slice (some ⟨blk, base, none⟩) ds.length cap ∧ w'.heap[blk]? = some (.cells cs et fz) ∧ cs.toList = pre ++ mid ++ post ∧ pre.length = base ∧
       Reps ty (memOf w' (X ++ [blk])) ds (List.replicate ds.length (ty e)) mid ∧ (ds.length ≤ cap ∧ cap ≤ maxInt) ∧ (cap - ds.length) * P.cellsOf e ≤ post.length ∧ (∀ o, o < cs.size + slk (ty e) → ¬ (fz.1 ≤ o ∧ o < fz.2))))
def Contract (P : Program) (ty : Nat → K) (I : World → Prop) (f : Nat) (fn : Func) (c : Con) : Prop :=
  ∀ (X : List Nat) (w : World) (ds : List D) (xs : List Value) (r : D), I w → (∀ b ∈ X, b < w.heap.size) → Each ty (memOf w X) ds (fn.params.toList.map ty) xs → c.run ds = some r →
    Calls P f xs.toArray w fun e w' => ∃ v, e = .returned v ∧ Below w.heap.size w w' ∧
      (if c.plain = true then ∀ M, ResRep ty M fn.resultTypes.toList r v else if c.fresh = true then FreshRep P ty X w w' fn.resultTypes.toList r v else ResRep ty (memOf w' X) fn.resultTypes.toList r v)
def ExtOk (P : Program) (ty : Nat → K) (I : World → Prop) (gl f : Nat) (x : Ext) : Prop :=
  ∀ (cd : Cd) (X : List Nat) (B0 : Nat) (w0 : World) (μ : List Loc) (H : List AObj) (w : World) (args : List V) (v : V) (H' : List AObj) (xs : List Value), I w → gl ≤ B0 → HOk ty P.cellsOf cd X B0 w0 μ H w → RVt ty P.cellsOf (M_ X μ H w) μ args xs →
    x args H = some (true, v, H') → Calls P f xs.toArray w fun e w' => ∃ y μ', e = .returned y ∧ HOk ty P.cellsOf cd X B0 w0 μ' H' w' ∧ RR ty P.cellsOf (M_ X μ' H' w') μ' v y ∧ Fut X B0 μ.length μ H w μ' H' w'
def PrimOk (P : Program) (ty : Nat → K) (f : Nat) (p : List D → Option D) : Prop :=
  ∀ (fn : Func) (M : Mem) (ds : List D) (xs : List Value) (r : D) (w : World), P.funcs[f]? = some fn → Each ty M ds (fn.params.toList.map ty) xs → p ds = some r →
    ∃ v, (callFunc f xs.toArray).run P w = .ok (.value v) w ∧ ∀ M', ResRep ty M' fn.resultTypes.toList r v
structure EnvOk (P : Program) (E : Env) (I : World → Prop) (gl : Nat) : Prop where
  ty : TyOk P E.ty
  fn : ∀ f fn, E.fn f = some fn → P.funcs[f]? = some fn ∧ (fn.name == "runtime.NumGoroutine") = false
  con : ∀ f c fn, E.con f = some c → E.fn f = some fn → Contract P E.ty I f fn c
  keep : ∀ w w', Below gl w w' → I w → I w'
  mixed : P.follows .mixedOrders = true
  ext : ∀ f x, E.ext f = some x → ExtOk P E.ty I gl f x
  rounds : ∀ f fn, E.fn f = some fn → roundsOk fn = true
  prim : ∀ f p, E.prim f = some p → PrimOk P E.ty f p
theorem resV_ok {M : Mem} {μ : List Loc} {ts : List Nat} {r : D} {v : Value} (h : ResRep ty M ts r v) : RR ty P.cellsOf M μ (resV ty ts r) v := by
  unfold ResRep at h
  unfold resV
  split at h
  · rename_i t
    exact .inr ⟨ty t, by simp only [RV]; exact ⟨trivial, h⟩⟩
  · rename_i hne
    split
    · exact absurd rfl (hne _)
    · obtain ⟨ds, xs, rfl, rfl, hE⟩ := h
      exact .inr ⟨.bad, by simp only [RV]; exact ⟨trivial, ds, xs, rfl, rfl, hE⟩⟩
variable {cd : Cd} {X : List Nat} {B0 : Nat} {w0 : World}
theorem freeze_ok {μ : List Loc} {w : World} : ∀ (bs : List Nat) {H : List AObj}, HOk ty P.cellsOf cd X B0 w0 μ H w →
    HOk ty P.cellsOf cd X B0 w0 μ (bs.foldl freeze1 H) w ∧ Fut X B0 μ.length μ H w μ (bs.foldl freeze1 H) w ∧ (bs.foldl freeze1 H).length = H.length
  | [], H, h => ⟨h, Fut.refl h, rfl⟩
  | b :: bs, H, h => by
    simp only [List.foldl_cons]
    have h1 : HOk ty P.cellsOf cd X B0 w0 μ (freeze1 H b) w ∧ Fut X B0 μ.length μ H w μ (freeze1 H b) w ∧ (freeze1 H b).length = H.length := by
      unfold freeze1
      split
      · rename_i o ho
        obtain ⟨l, hl⟩ := h.loc ho
        have := h.less hl ho (o' := o.frozen) (by
            intro b' hb
            cases o <;> simp_all [AObj.frozen, ownB]) (by
            intro b' hb
            cases o <;> simp_all [AObj.frozen, usesB]) (fun M' hM => by
            have hobj := (h.obj b l o hl ho).mono hM (fun _ _ h => h) (fun _ _ => rfl) (μ' := μ) (w' := w)
            cases o <;> exact hobj)
        exact ⟨this.1, this.2, by simp⟩
      · exact ⟨h, Fut.refl h, rfl⟩
    obtain ⟨h2, h3, h4⟩ := freeze_ok bs h1.1
    exact ⟨h2, Fut.trans (Nat.le_refl _) h1.2.1 h3, by rw [h4, h1.2.2]⟩
theorem freeze1_get (H : List AObj) (b i : Nat) : (freeze1 H b)[i]? = if b = i then (H[i]?).map AObj.frozen else H[i]? := by
  unfold freeze1
  split
  · rename_i o ho
    rw [List.getElem?_set]
    by_cases h : b = i
    · subst h
      obtain ⟨hl, _⟩ := List.getElem?_eq_some_iff.1 ho
      simp only [hl, and_self, if_true, ho, Option.map_some]
    · simp [h]
  · rename_i ho
    by_cases h : b = i
    · subst h; simp [ho]
    · simp [h]
theorem kindIs_freeze1 (H : List AObj) (b : Nat) (v : V) (κ : K) : kindIs ty (freeze1 H b) v κ = kindIs ty H v κ := by
  cases v with
  | sref b' off len =>
    simp only [kindIs, freeze1_get]
    by_cases hb : b = b'
    · rw [if_pos hb]
      cases H[b']? with
      | none => rfl
      | some o => cases o <;> rfl
    · rw [if_neg hb]
  | map b' =>
    simp only [kindIs, freeze1_get]
    by_cases hb : b = b'
    · rw [if_pos hb]
      cases H[b']? with
      | none => rfl
      | some o => cases o <;> rfl
    · rw [if_neg hb]
  | _ => rfl
theorem allKinds_freeze : ∀ (bs : List Nat) (H : List AObj) (vs : List V) (ts : List Nat), allKinds ty (bs.foldl freeze1 H) vs ts = allKinds ty H vs ts
  | [], _, _, _ => rfl
  | b :: bs, H, vs, ts => by
    rw [List.foldl_cons, allKinds_freeze bs]
    induction vs generalizing ts with
    | nil => cases ts <;> rfl
    | cons v vs ih => cases ts with
      | nil => rfl
      | cons t ts => simp only [allKinds, kindIs_freeze1, ih]
section ops
variable {R : Type} {E : Env} {hint : Hint} {μ : List Loc} {H : List AObj} {w : World} {regs : List V} {a : Act} {o : Oper} {k : V → Eff → Option R} {r : R} {next : Act → World → Prop} {Q : Exit → Act → World → Prop} {I : World → Prop} {gl : Nat}
variable (EO : EnvOk P E I gl) (hI : I w0) (hgl : gl ≤ B0) (h : HOk E.ty P.cellsOf E.rnd X B0 w0 μ H w) (hr : Regs P E.ty (M_ X μ H w) μ regs a.tmps) (hn : Nexts P E.ty E.rnd X B0 w0 μ H w a o.dst k r next)
theorem vFunc_ok {M : Mem} {u : V} {x : Value} {g : Nat} {fs cs : List V} (hr : RR E.ty P.cellsOf M μ u x) (h : vFunc u = some (g, fs, cs)) : ∃ xs ys, x = .func (.func g) xs ys ∧ RVt E.ty P.cellsOf M μ fs xs.toList ∧ RVt E.ty P.cellsOf M μ cs ys.toList := by
  unfold vFunc at h
  split at h
  · simp only [Option.some.injEq, Prod.mk.injEq] at h
    obtain ⟨rfl, rfl, rfl⟩ := h
    replace hr := hr.resolve_left (by simp)
    obtain ⟨κ, hr⟩ := hr
    simp only [RV, Rep] at hr
    exact ⟨#[], #[], hr.2.2, by simp [RVt], by simp [RVt]⟩
  · simp only [Option.some.injEq, Prod.mk.injEq] at h
    obtain ⟨rfl, rfl, rfl⟩ := h
    replace hr := hr.resolve_left (by simp)
    obtain ⟨κ, hr⟩ := hr
    simp only [RV] at hr
    obtain ⟨_, xs, ys, hx, h1, h2⟩ := hr
    exact ⟨xs, ys, hx, h1, h2⟩
  · simp at h
include EO in
theorem run_enter {c : Call} {fo : Operand} {g : Nat} {fn : Func} {xs ys : Array Value} (ho : o.op = .call c) (hc : c.callee = .value fo) (hx : a.eval fo = .func (.func g) xs ys) (hf : E.fn g = some fn) (hb : fn.body.isSome = true) (w : World) :
    (execOp a.eval o).run P w = .ok (.enter g (xs ++ c.args.map a.eval ++ ys)) w := by
  obtain ⟨h1, h2⟩ := EO.fn g fn hf
  have hb' : fn.body.isNone = false := by cases h : fn.body <;> simp_all
  simp only [execOp, ho, resolve, hc, Deferred.ofValue, hx]
  simp only [run_bind, run_pure, invoke, callFunc, program, Sem.run, h1, h2, hb', Bool.false_eq_true, if_false]
include EO h hr hn in
theorem op_prim {c : Call} {fo : Operand} {g : Nat} {p : List D → Option D} {fn : Func} (ho : o.op = .call c) (hc : c.callee = .value fo) (hvf : vFunc (val regs .func fo) = some (g, [], [])) (hp : E.prim g = some p) (hfn : E.fn g = some fn)
    (hl : c.args.toList.length = fn.params.toList.length) (hk : allKinds E.ty H (vals regs E.ty c.args.toList fn.params.toList) fn.params.toList = true)
    (he : evPrim E H p fn (vals regs E.ty c.args.toList fn.params.toList) k = some r) : o.wp P a w next Q := by
  have T := EO.ty
  obtain ⟨fx, fy, hx, hfx, hfy⟩ := vFunc_ok (val_ok hr .func fo) hvf
  have hfx0 : fx = #[] := by simp only [RVt] at hfx; exact Array.toList_inj.1 hfx
  have hfy0 : fy = #[] := by simp only [RVt] at hfy; exact Array.toList_inj.1 hfy
  subst hfx0 hfy0
  have hvals := RVt.of_vals' hr c.args.toList fn.params.toList hl
  unfold evPrim at he
  split at he
  · rename_i ds hds
    split at he
    · rename_i res hres
      have hE := pureEach_ok T h (st := false) PM_le _ _ _ _ hvals hk hds
      obtain ⟨v, h1, h2⟩ := EO.prim g p hp fn _ ds _ res w (EO.fn g fn hfn).1 hE hres
      have hargs : #[] ++ c.args.map a.eval ++ #[] = (c.args.toList.map a.eval).toArray := by apply Array.toList_inj.1; simp
      refine wp_value (x := v) (w' := w) ?_ (hn.same h he (resV_ok (h2 _)))
      simp only [execOp, ho, resolve, hc, Deferred.ofValue, hx]
      simp only [run_bind, run_pure, invoke]
      rw [hargs]
      exact h1
    · simp at he
  · simp at he
include EO hI hgl h hr hn in
theorem op_con {c : Call} {fo : Operand} {g : Nat} {cc : Con} {fn : Func} (ho : o.op = .call c) (hc : c.callee = .value fo) (hvf : vFunc (val regs .func fo) = some (g, [], [])) (hcon : E.con g = some cc) (hfn : E.fn g = some fn)
    (hb : fn.body.isSome = true) (hl : c.args.toList.length = fn.params.toList.length) (hk : allKinds E.ty H (vals regs E.ty c.args.toList fn.params.toList) fn.params.toList = true)
    (he : evCon E H cc fn (vals regs E.ty c.args.toList fn.params.toList) k = some r) : o.wp P a w next Q := by
  have T := EO.ty
  obtain ⟨fx, fy, hx, hfx, hfy⟩ := vFunc_ok (val_ok hr .func fo) hvf
  have hfx0 : fx = #[] := by simp only [RVt] at hfx; exact Array.toList_inj.1 hfx
  have hfy0 : fy = #[] := by simp only [RVt] at hfy; exact Array.toList_inj.1 hfy
  subst hfx0 hfy0
  have hrun := run_enter EO ho hc hx hfn hb w
  have hargs : #[] ++ c.args.map a.eval ++ #[] = (c.args.toList.map a.eval).toArray := by apply Array.toList_inj.1; simp
  rw [hargs] at hrun
  have hvals := RVt.of_vals' hr c.args.toList fn.params.toList hl
  have hcontr := EO.con g cc fn hcon hfn
  have hIw : I w := EO.keep w0 w (h.below.mono hgl) hI
  unfold Oper.wp
  rw [hrun]
  rw [Oper.upon_enter]
  unfold evCon at he
  cases hp : cc.plain with
  | true =>
    rw [hp] at he
    simp only [cond_true] at he
    split at he
    · rename_i ds hds
      split at he
      · rename_i res hres
        have hE := pureEach_ok T h (st := false) PM_le _ _ _ _ hvals hk hds
        refine (hcontr (X ++ []) w ds _ res hIw (fun b hb => ?_) hE hres).mono ?_
        · have := h.resv b (by simpa using hb); have := h.size; omega
        · rintro e w' ⟨v, rfl, hbelow, hv⟩
          rw [if_pos hp] at hv
          obtain ⟨g1, g2⟩ := h.grow hbelow
          exact hn _ .none μ w' v he (resV_ok (hv _)) g1 g2
      · simp at he
    · simp at he
  | false =>
    rw [hp] at he
    simp only [cond_false] at he
    obtain ⟨f1, f2, f3⟩ := freeze_ok (V.refsL (vals regs E.ty c.args.toList fn.params.toList)) h
    split at he
    · rename_i ds hds
      split at he
      · rename_i res hres
        have hkf : allKinds E.ty ((V.refsL (vals regs E.ty c.args.toList fn.params.toList)).foldl freeze1 H) (vals regs E.ty c.args.toList fn.params.toList) fn.params.toList = true := by
          rw [allKinds_freeze]; exact hk
        have hE := pureEach_ok T f1 (st := true) f2.mem _ _ _ _ hvals hkf hds
        have hXb : ∀ b ∈ X ++ owned μ ((V.refsL (vals regs E.ty c.args.toList fn.params.toList)).foldl freeze1 H), b < w.heap.size := by
          intro b hb
          rcases List.mem_append.1 hb with hb | hb
          · have := h.resv b hb; have := h.size; omega
          · obtain ⟨j, l', o', g1, g2, g3⟩ := mem_owned.1 hb
            exact f1.bound j b ⟨l', o', g1, g2, (own_uses g3).1⟩
        refine (hcontr _ w ds _ res hIw hXb hE hres).mono ?_
        rintro e w' ⟨v, rfl, hbelow, hv⟩
        rw [if_neg (by simp [hp])] at hv
        cases hfr : cc.fresh with
        | false =>
          rw [hfr] at he
          simp only [cond_false] at he
          rw [if_neg (by simp [hfr])] at hv
          obtain ⟨g1, g2⟩ := f1.grow hbelow
          refine hn _ (.freeze _) μ w' v he (resV_ok hv) g1 ?_
          exact Fut.trans (Nat.le_refl _) f2 g2
        | true =>
          rw [hfr] at he
          simp only [cond_true] at he
          rw [if_pos hfr] at hv
          rcases hv with ⟨t, a', e, es, blk, ms, hts, hke, rfl, rfl, hge, hblk, hent⟩ | ⟨t, e, nn, ds', hts, hke, rfl, hv⟩
          · rw [hts] at he
            simp only [hke, D.elems, List.map_map] at he
            have hmap : (es.map ((fun p : D => (p.at 0, p.at 1)) ∘ fun p : D × D => D.tup [p.1, p.2])) = es := by
              have : ((fun p : D => (p.at 0, p.at 1)) ∘ fun p : D × D => D.tup [p.1, p.2]) = id := rfl
              rw [this, List.map_id]
            rw [hmap] at he
            obtain ⟨_, hka, hkb⟩ := under_map T hke
            obtain ⟨h1, h2⟩ := HOk.newAt' f1 (l := ⟨blk, 0, 0, .map a' e, false, false⟩) (o := .map a' e es) hbelow (fun b hb => by simp [usesB] at hb; omega) (fun M' hM hM2 => by
              simp only [ObjOk]
              refine ⟨trivial, hka, hkb, ms, hblk, ?_⟩
              have e2 : M' = memOf w' (X ++ owned μ ((V.refsL (vals regs E.ty c.args.toList fn.params.toList)).foldl freeze1 H) ++ [blk]) := by rw [hM2]; simp [ownB]
              rw [e2]; exact hent)
            refine hn _ (.freezeNew _ _) _ w' _ he (.inr ⟨.map a' e, ?_⟩) h1 (Fut.trans (Nat.le_refl _) f2 h2)
            simp only [RV]
            refine ⟨⟨blk, 0, 0, .map a' e, false, false⟩, a', e, ?_, rfl, rfl, rfl⟩
            rw [← f1.len]; simp
          rw [hts] at he
          simp only [hke] at he
          have hne := under_slice_ne T hke
          rcases hv with ⟨rfl, ad, rfl, ha⟩ | ⟨rfl, blk, base, cap, cs, et, fz, pre, mid, post, h1, rfl, h2, h3, h4, h5, h6, h7, h8⟩
          · obtain ⟨g1, g2, g3⟩ := newVirt f1 hbelow hne ad
            subst ha
            exact hn _ (.freezeNew _ _) _ w' _ he g3 g1 (Fut.trans (Nat.le_refl _) f2 g2)
          · obtain ⟨g1, g2, g3⟩ := newRow_at f1 hbelow (pre := pre) h4 h1 h2 hne h3 (fun M' _ hM => by rw [hM]; simpa using h5) h6 h7 h8
            exact hn _ (.freezeNew _ _) _ w' _ he g3 g1 (Fut.trans (Nat.le_refl _) f2 g2)
      · simp at he
    · simp at he
end ops
end
end Go.AM
namespace Go.AM
open Go Go.RowKit
section
variable {P : Program} {X : List Nat} {B0 : Nat} {w0 : World}
variable {R : Type} {E : Env} {hint : Hint} {I : World → Prop} {gl : Nat}
variable (EO : EnvOk P E I gl) (hI : I w0) (hgl : gl ≤ B0)
include EO hI hgl
theorem evOp_ok {μ : List Loc} {H : List AObj} {w : World} {regs : List V} {a : Act} {o : Oper} {k : V → Eff → Option R} {r : R} {next : Act → World → Prop} {Q : Exit → Act → World → Prop}
    (h : HOk E.ty P.cellsOf E.rnd X B0 w0 μ H w) (hr : Regs P E.ty (M_ X μ H w) μ regs a.tmps) (hn : Nexts P E.ty E.rnd X B0 w0 μ H w a o.dst k r next)
    (he : evOp E hint H regs o.type o.op k = some r) : o.wp P a w next Q := by
  have T := EO.ty
  cases ho : o.op with
  | move x => rw [ho] at he; exact op_move h hr hn (.inl ho) he
  | assign x => rw [ho] at he; exact op_move h hr hn (.inr ho) he
  | pick c x y => rw [ho] at he; exact op_pick h hr hn ho he
  | alloc t => rw [ho] at he; exact op_alloc T h hr hn ho he
  | box t x => rw [ho] at he; exact op_box T h hr hn ho he
  | build t ps => rw [ho] at he; exact op_build T h hr hn ho he
  | buildSlice t n ps => rw [ho] at he; exact op_buildSlice T h hr hn ho he
  | load t x => rw [ho] at he; exact op_load T h hr hn ho he
  | store t x y => rw [ho] at he; exact op_store T h hr hn ho he
  | nilCheck x => rw [ho] at he; exact op_nilCheck h hr hn ho he
  | binOp op t x y u => rw [ho] at he; exact op_binOp T h hr hn ho he
  | unOp op t x => rw [ho] at he; exact op_unOp T h hr hn ho he
  | convert s d x => rw [ho] at he; exact op_convert T h hr hn ho he
  | makeInterface t x => rw [ho] at he; exact op_makeInterface T h hr hn ho he
  | makeFunc fn f c => rw [ho] at he; exact op_makeFunc h hr hn ho he
  | makeSlice t l c => rw [ho] at he; exact op_makeSlice T h hr hn ho he
  | slice t x lo hi mx => rw [ho] at he; exact op_sliceA T h hr hn ho he
  | fieldAddr t x f => rw [ho] at he; exact op_fieldAddr T h hr hn ho he
  | field t x f => rw [ho] at he; exact op_field T h hr hn ho he
  | indexAddr t x i => rw [ho] at he; exact op_indexAddr T h hr hn ho he
  | index t x i => rw [ho] at he; exact op_index T h hr hn ho he
  | range t x => rw [ho] at he; exact op_range T h hr hn ho he
  | next it b => rw [ho] at he; exact op_next h hr hn ho he
  | typeAssert x xT t ok => rw [ho] at he; exact op_typeAssert T h hr hn ho he
  | makeMap t x => rw [ho] at he; exact op_makeMap T h hr hn ho he
  | insert t m key v => rw [ho] at he; exact op_insert T h hr hn (.inl ho) (by simpa only [evOp] using he)
  | mapUpdate t m key v => rw [ho] at he; exact op_insert T h hr hn (.inr ho) (by simpa only [evOp] using he)
  | lookup t m key ok => rw [ho] at he; exact op_lookup T h hr hn ho (by simpa only [evOp] using he)
  | extract x i => rw [ho] at he; exact op_extract T h hr hn ho he
  | call c =>
    rw [ho] at he
    simp only [evOp] at he
    split at he
    · rename_i b hc
      split at he
      · rename_i hl
        cases b with
        | len => exact op_len T h hr hn ho hc hl he
        | append => exact op_append T h hr hn ho hc hl he
        | max => exact op_maxmin (most := true) h hr hn ho (by simpa using hc) hl he
        | min => exact op_maxmin (most := false) h hr hn ho (by simpa using hc) hl he
        | clear => exact op_clear T h hr hn ho hc hl he
        | copy => exact op_copy T h hr hn ho hc hl he
        | _ => simp [evBuiltin] at he
      · simp at he
    · rename_i fo hc
      split at he
      · rename_i g hvf
        split at he
        · rename_i p hp
          split at he
          · rename_i fn hfn
            split at he
            · rename_i hb
              exact op_prim EO h hr hn ho hc hvf hp hfn hb.1 hb.2 he
            · simp at he
          · simp at he
        split at he
        · rename_i cc fn hcon hfn
          split at he
          · rename_i hb
            exact op_con EO hI hgl h hr hn ho hc hvf hcon hfn hb.1 hb.2.1 hb.2.2 he
          · simp at he
        · simp at he
      · simp at he
    · simp at he
  | _ => rw [ho] at he; simp [evOp] at he
def Defs (n0 : Nat) (a : Act) (w : World) : Prop :=
  n0 ≤ w.heap.size ∧ ∃ bs : List Nat, a.defers = bs.map (fun b => ({ target := .collected b, args := #[] } : Deferred)) ∧ bs.Nodup ∧ ∀ b ∈ bs, n0 ≤ b ∧ w.heap[b]? = some (.deferred (some []))
omit EO hI hgl in
theorem Defs.next {n0 base : Nat} {a a' : Act} {w w' : World} {μ μ' : List Loc} {H H' : List AObj} (h : Defs n0 a w) (F : Fut X B0 base μ H w μ' H' w') (e : a'.defers = a.defers) : Defs n0 a' w' := by
  obtain ⟨h0, bs, h1, h2, h3⟩ := h
  exact ⟨Nat.le_trans h0 F.below.size, bs, by rw [e, h1], h2, fun b hb => ⟨(h3 b hb).1, F.dfr b (h3 b hb).2⟩⟩
omit EO hI hgl in
theorem Defs.nil {a : Act} {w : World} (h : a.defers = []) : Defs w.heap.size a w := ⟨Nat.le_refl _, [], by simp [h], by simp, by simp⟩
abbrev Fr (ro : Option Nat) : Fence := { Fence.wide with round := ro }
omit EO hI hgl in
theorem Fr_room (ro : Option Nat) (k : Nat) : (Fr ro).room k := room_wide k
omit EO hI hgl in
theorem callsIn_Fr {ro : Option Nat} {n : Nat} {f : Nat} {args : Array Value} {w : World} {Q : Ending → World → Prop} (h : Calls P f args w Q) : CallsIn (Fr ro) n P f args w Q := by
  have := (callsIn_wide (n := n)).2 h
  exact this
omit EO hI hgl in
theorem rowsIn_Fr {ro : Option Nat} {n : Nat} {row : String} {args : Array Value} {w : World} {Q : Value → World → Prop} (h : Rows P row args w Q) : RowsIn (Fr ro) n P row args w Q := by
  intro c cs _
  obtain ⟨v, w', r, s⟩ := h c cs
  exact ⟨v, w', r, stepsIn_wide.2 s⟩
omit EO hI hgl in
theorem wpIn_of_wp {ro : Option Nat} {n : Nat} {a : Act} {w : World} {o : Oper} {next : Act → World → Prop} {Q : Exit → Act → World → Prop} (hd : ∀ c, o.op ≠ .defer c) (h : o.wp P a w next Q) : o.wpIn (Fr ro) n P a w next Q := by
  refine ⟨fun _ _ => trivial, ?_⟩
  have hs : o.semAt ro a.eval = execOp a.eval o := by
    unfold Oper.semAt
    split
    · rename_i c hc; exact absurd hc (hd c)
    · rfl
  show o.uponIn (Fr ro) n P a next Q ((o.semAt ro a.eval).run P w)
  rw [hs]
  unfold Oper.wp at h
  revert h
  cases hrun : (execOp a.eval o).run P w with
  | ok x w' =>
    cases x with
    | value v => exact id
    | skip => exact id
    | defer d => exact id
    | enter f args => exact fun h => ⟨fun h => by simp [Fence.wide] at h, callsIn_Fr h⟩
    | row row args => exact fun h => ⟨fun h => by simp [Fence.wide] at h, rowsIn_Fr h⟩
    | _ => exact fun h => h.elim
  | halt x w' =>
    cases x with
    | panic v => exact id
    | _ => exact fun h => h.elim
theorem evOp_okIn {ro : Option Nat} {n : Nat} {μ : List Loc} {H : List AObj} {w : World} {regs : List V} {a : Act} {o : Oper} {k : V → Eff → Option R} {r : R} {next : Act → World → Prop} {Q : Exit → Act → World → Prop}
    (h : HOk E.ty P.cellsOf E.rnd X B0 w0 μ H w) (hr : Regs P E.ty (M_ X μ H w) μ regs a.tmps) (hn : Nexts P E.ty E.rnd X B0 w0 μ H w a o.dst k r next)
    (he : evOp E hint H regs o.type o.op k = some r) : o.wpIn (Fr ro) n P a w next Q := by
  refine wpIn_of_wp (fun c hc => ?_) (evOp_ok EO hI hgl h hr hn he)
  rw [hc] at he
  simp [evOp] at he
def InlOk (P : Program) (E : Env) (X : List Nat) (B0 : Nat) (w0 : World) (inl : Tgt → List V → List AObj → (V → List AObj → Option R) → Option R) : Prop :=
  ∀ (t : Tgt) (args : List V) (H : List AObj) (k : V → List AObj → Option R) (r : R) (μ : List Loc) (w : World) (xs : List Value) (Post : Value → World → Prop),
    inl t args H k = some r → HOk E.ty P.cellsOf E.rnd X B0 w0 μ H w → RVt E.ty P.cellsOf (M_ X μ H w) μ args xs →
    (∀ v H' μ' w' x, k v H' = some r → RR E.ty P.cellsOf (M_ X μ' H' w') μ' v x → HOk E.ty P.cellsOf E.rnd X B0 w0 μ' H' w' → Fut X B0 μ.length μ H w μ' H' w' → Post x w') →
    match t with
    | .fn g => Calls P g xs.toArray w fun e w' => ∃ x, e = .returned x ∧ Post x w'
    | .yield b => ∀ l, μ[b]? = some l → YieldAt Fence.wide 0 P l.blk xs.toArray w fun e w' => ∃ x, e = .returned x ∧ Post x w'
omit EO hI hgl in
theorem RVt.append {ty : Nat → K} {sz : Nat → Nat} {M : Mem} {μ : List Loc} : ∀ {as1 bs : List V} {xs ys : List Value}, RVt ty sz M μ as1 xs → RVt ty sz M μ bs ys → RVt ty sz M μ (as1 ++ bs) (xs ++ ys)
  | [], bs, xs, ys, h, k => by simp only [RVt] at h; subst h; simpa using k
  | a :: as1, bs, xs, ys, h, k => by
    simp only [RVt] at h
    obtain ⟨x, rest, rfl, h1, h2⟩ := h
    simp only [List.cons_append, RVt]
    exact ⟨x, rest ++ ys, rfl, h1, RVt.append h2 k⟩
omit hI hgl in
theorem inlines_ok {inl : Tgt → List V → List AObj → (V → List AObj → Option R) → Option R} (IN : InlOk P E X B0 w0 inl) {ro : Option Nat} {μ : List Loc} {H : List AObj} {w : World} {regs : List V} {a : Act} {o : Oper} {r : R} {next : Act → World → Prop} {Q : Exit → Act → World → Prop}
    (h : HOk E.ty P.cellsOf E.rnd X B0 w0 μ H w) (hr : Regs P E.ty (M_ X μ H w) μ regs a.tmps) {g : Tgt} {args : List V} {k : V → List AObj → Option R} (hi : inlines E regs o = some (g, args)) (he : inl g args H k = some r)
    (hk : ∀ v H' μ' w' x, k v H' = some r → RR E.ty P.cellsOf (M_ X μ' H' w') μ' v x → HOk E.ty P.cellsOf E.rnd X B0 w0 μ' H' w' → Fut X B0 μ.length μ H w μ' H' w' → next (a.put o.dst x) w') : o.wpIn (Fr ro) 0 P a w next Q := by
  unfold inlines at hi
  split at hi
  · rename_i c ho
    have hd : ∀ c, o.op ≠ .defer c := fun c' h => by rw [ho] at h; cases h
    split at hi
    · rename_i fo hc
      split at hi
      · rename_i g' fs cs hvf
        obtain ⟨xs, ys, hx, hxs, hys⟩ := vFunc_ok (val_ok hr .func fo) hvf
        have hfin : ∀ fn, E.fn g' = some fn → fn.body.isSome = true → c.args.toList.length = (fn.params.toList.drop fs.length).length → .fn g' = g → fs ++ vals regs E.ty c.args.toList (fn.params.toList.drop fs.length) ++ cs = args → o.wpIn (Fr ro) 0 P a w next Q := by
          intro fn hfn hb hl hg hargs
          subst hg
          have hrun := run_enter EO ho hc hx hfn hb w
          refine wpIn_of_wp hd ?_
          unfold Oper.wp
          rw [hrun, Oper.upon_enter]
          have hvals := RVt.of_vals' hr c.args.toList (fn.params.toList.drop fs.length) hl
          have hall := (hxs.append hvals).append hys
          rw [hargs] at hall
          have hcall := IN (.fn g') args H k r μ w _ (fun x w' => next (a.put o.dst x) w') he h hall hk
          have e1 : (xs.toList ++ c.args.toList.map a.eval ++ ys.toList).toArray = xs ++ c.args.map a.eval ++ ys := by apply Array.toList_inj.1; simp
          simp only at hcall
          rw [e1] at hcall
          exact hcall.mono (by rintro e w' ⟨x, rfl, hx⟩; exact hx)
        split at hi
        · simp at hi
        · split at hi
          · rename_i fn hfn
            split at hi
            · rename_i hb
              simp only [Option.some.injEq, Prod.mk.injEq] at hi
              exact hfin fn hfn hb.1 hb.2 hi.1 hi.2
            · simp at hi
          · simp at hi
      · split at hi
        · rename_i b hv
          split at hi
          · rename_i hl
            simp only [Option.some.injEq, Prod.mk.injEq] at hi
            obtain ⟨rfl, rfl⟩ := hi
            have hx := val_ok hr .func fo
            rw [hv] at hx
            replace hx := hx.resolve_left (by simp)
            obtain ⟨κ, hx⟩ := hx
            simp only [RV] at hx
            obtain ⟨_, l, hμ, _, hx⟩ := hx
            have hvals := RVt.of_vals' hr c.args.toList c.argTypes.toList hl
            have hcall := IN (.yield b) _ H k r μ w _ (fun x w' => next (a.put o.dst x) w') he h hvals hk l hμ
            obtain ⟨fn, tmps, asg, body, h1, h2⟩ := hcall
            refine ⟨fun _ _ => trivial, ?_⟩
            have hs : o.semAt ro a.eval = execOp a.eval o := by
              unfold Oper.semAt
              split
              · rename_i c hc'; exact absurd hc' (hd c)
              · rfl
            show o.uponIn (Fr ro) 0 P a next Q ((o.semAt ro a.eval).run P w)
            have hrun : (execOp a.eval o).run P w = .ok (.round l.blk fn tmps asg body) w := by
              simp only [execOp, ho, resolve, hc, Deferred.ofValue, hx]
              simp only [run_bind, run_pure, invoke]
              have e1 : (List.map a.eval c.args.toList).toArray = c.args.map a.eval := by apply Array.toList_inj.1; simp
              rw [e1] at h1
              simpa using h1
            rw [hs, hrun, Oper.uponIn_round]
            refine ⟨fun h => by simp [Fence.wide] at h, ?_⟩
            have h3 : RoundIn (Fr ro) 0 P l.blk fn tmps asg body w (fun e w' => ∃ x, e = .returned x ∧ next (a.put o.dst x) w') := h2
            exact h3.mono (by rintro e w' ⟨x, rfl, hx⟩; exact hx)
          · simp at hi
        · simp at hi
    · simp at hi
  · simp at hi
omit EO hI hgl in
theorem Regs.refine {M : Mem} {μ : List Loc} {regs : List V} {tmps : Array Value} (hr : Regs P E.ty M μ regs tmps) {t : Nat} {x : D} {b : Bool} (ht : regs.getD t .undef = .d .bool x) (hb : x.b = b) :
    Regs P E.ty M μ (regs.set t (.d .bool (.bool b))) tmps ∧ tmps[t]? = some (.bool b) := by
  have h1 := hr.get t
  rw [ht] at h1
  replace h1 := h1.resolve_left (by simp)
  obtain ⟨κ, h1⟩ := h1
  simp only [RV] at h1
  obtain ⟨rfl, h1⟩ := h1
  have h2 := rep_bool h1
  rw [hb] at h2
  have hlt : t < tmps.size := by
    rcases Nat.lt_or_ge t tmps.size with h | h
    · exact h
    · rw [Array.getD_eq_getD_getElem?, Array.getElem?_eq_none h] at h2
      simp [Go.undef] at h2
  refine ⟨⟨by simp [hr.len], fun i => ?_⟩, ?_⟩
  · rw [getD_set]
    split
    · rename_i hi
      obtain ⟨rfl, _⟩ := hi
      exact .inr ⟨.bool, by simp only [RV, Rep]; exact ⟨trivial, trivial, h2⟩⟩
    · exact hr.get i
  · rw [Array.getD_eq_getD_getElem?, Array.getElem?_eq_getElem hlt] at h2
    rw [Array.getElem?_eq_getElem hlt]
    simpa using h2
omit EO hI hgl in
theorem rr_skip {ty : Nat → K} {sz : Nat → Nat} {M : Mem} {μ : List Loc} : RR ty sz M μ (.tup []) Go.undef :=
  .inr ⟨.bad, by simp only [RV]; exact ⟨trivial, #[], rfl, by simp [RVt]⟩⟩
omit EO hI hgl in
theorem rr_skipped {ty : Nat → K} {sz : Nat → Nat} {M : Mem} {μ : List Loc} {x : Value} (h : RR ty sz M μ (.tup []) x) : x = Go.undef := by
  replace h := h.resolve_left (by simp)
  obtain ⟨κ, h⟩ := h
  simp only [RV] at h
  obtain ⟨_, xs, rfl, h⟩ := h
  simp only [RVt] at h
  have : xs = #[] := by apply Array.toList_inj.1; simpa using h
  simp [Go.undef, this]
theorem evOps_ok {inl : Tgt → List V → List AObj → (V → List AObj → Option R) → Option R} (IN : InlOk P E X B0 w0 inl) {ro : Option Nat} {n0 : Nat} {ops : Array Oper} {Q : Exit → Act → World → Prop} {r : R} {k : List V → List AObj → Option R}
    {base : Nat} {μs : List Loc} {Hs : List AObj} {ws : World}
    (hk : ∀ regs' H' μ' a' w', k regs' H' = some r → HOk E.ty P.cellsOf E.rnd X B0 w0 μ' H' w' → Regs P E.ty (M_ X μ' H' w') μ' regs' a'.tmps → Defs n0 a' w' → Fut X B0 base μs Hs ws μ' H' w' → Q .normal a' w') :
    ∀ (os pre : List Oper) (regs : List V) (H : List AObj) (μ : List Loc) (a : Act) (w : World), ops.toList = pre ++ os → evOps E inl hint (ops.toList.map (·.dst)) os regs H k = some r →
      HOk E.ty P.cellsOf E.rnd X B0 w0 μ H w → Regs P E.ty (M_ X μ H w) μ regs a.tmps → Defs n0 a w → Fut X B0 base μs Hs ws μ H w → wpOpsIn (Fr ro) 0 P ops Q (List.range' pre.length os.length) a w
  | [], pre, regs, H, μ, a, w, ho, he, h, hr, hd, F => by
    simp only [evOps] at he
    simp only [List.length_nil, List.range'_zero, wpOpsIn]
    exact hk regs H μ a w he h hr hd F
  | o :: os, pre, regs, H, μ, a, w, ho, he, h, hr, hd, F => by
    have hget : ops[pre.length]? = some o := by rw [← Array.getElem?_toList, ho]; simp
    have hrest : ops.toList = (pre ++ [o]) ++ os := by rw [ho]; simp
    have hlen : (pre ++ [o]).length = pre.length + 1 := by simp
    simp only [List.length_cons, List.range'_succ, wpOpsIn, hget]
    have hgo : ∀ regs', Regs P E.ty (M_ X μ H w) μ regs' a.tmps →
        (match inlines E regs' o with
          | some (g, args) => inl g args H fun v H' => evOps E inl hint (ops.toList.map (·.dst)) os (setD regs' o.dst v) H' k
          | none => evOp E hint H regs' o.type o.op fun v e => evOps E inl hint (ops.toList.map (·.dst)) os (setD regs' o.dst v) (e.app H) k) = some r →
        o.wpIn (Fr ro) 0 P a w (wpOpsIn (Fr ro) 0 P ops Q (List.range' (pre.length + 1) os.length)) Q := by
      intro regs' hr' he'
      have hnext : ∀ v H' μ' w' x, evOps E inl hint (ops.toList.map (·.dst)) os (setD regs' o.dst v) H' k = some r → RR E.ty P.cellsOf (M_ X μ' H' w') μ' v x → HOk E.ty P.cellsOf E.rnd X B0 w0 μ' H' w' → Fut X B0 μ.length μ H w μ' H' w' →
          wpOpsIn (Fr ro) 0 P ops Q (List.range' (pre.length + 1) os.length) (a.put o.dst x) w' := by
        intro v H' μ' w' x hk' hv h' F'
        have := evOps_ok IN (ro := ro) hk os (pre ++ [o]) (setD regs' o.dst v) H' μ' (a.put o.dst x) w' hrest hk' h' ((hr'.mono F'.mem (F'.keeps (Nat.le_refl _))).set hv) (hd.next F' (put_defers _ _ _)) (F.trans F.len F')
        rwa [hlen] at this
      split at he'
      · rename_i g args hi
        exact inlines_ok EO IN h hr' hi he' hnext
      · exact evOp_okIn EO hI hgl h hr' (fun u e μ' w' x hk' hv h' F' => hnext u (e.app H) μ' w' x hk' hv h' F') he'
    have hskip : ∀ regs', Regs P E.ty (M_ X μ H w) μ regs' a.tmps → evOps E inl hint (ops.toList.map (·.dst)) os (setD regs' o.dst (.tup [])) H k = some r →
        wpOpsIn (Fr ro) 0 P ops Q (List.range' (pre.length + 1) os.length) (a.put o.dst Go.undef) w := by
      intro regs' hr' he'
      have := evOps_ok IN (ro := ro) hk os (pre ++ [o]) (setD regs' o.dst (.tup [])) H μ (a.put o.dst Go.undef) w hrest he' h (hr'.set rr_skip) (hd.next (Fut.refl h) (put_defers _ _ _)) F
      rwa [hlen] at this
    simp only [evOps] at he
    split at he
    · rename_i hg
      have hw : Region.wanted o (yielded ops a.tmps) = true := by simp [Region.wanted, hg]
      rw [if_pos hw]
      exact (hgo regs hr he)
    · rename_i j want hg
      split at he
      · rename_i t hdst
        split at he
        · rename_i x hx
          have hy : ∀ b, x.b = b → Region.wanted o (yielded ops a.tmps) = (some b == some want) := by
            intro b hb
            have h2 := (hr.refine hx hb).2
            have hdst' : (ops[j]?).bind (·.dst) = some t := by
              rw [← Array.getElem?_toList]
              rw [List.getD_eq_getElem?_getD, List.getElem?_map] at hdst
              cases hoj : ops.toList[j]? with
              | none => rw [hoj] at hdst; simp at hdst
              | some oj => rw [hoj] at hdst; simpa using hdst
            simp [Region.wanted, hg, yielded, hdst', h2]
          split at he
          · rename_i hb
            have h1 := (hr.refine hx hb).1
            have hw := hy true hb
            cases want with
            | true =>
              simp only [cond_true] at he
              rw [if_pos (by rw [hw]; rfl)]
              exact (hgo _ h1 he)
            | false =>
              simp only [cond_false] at he
              rw [if_neg (by rw [hw]; simp)]
              exact ⟨fun _ _ => trivial, hskip _ h1 he⟩
          · rename_i hb
            have h1 := (hr.refine hx hb).1
            have hw := hy false hb
            cases want with
            | true =>
              simp only [cond_true] at he
              rw [if_neg (by rw [hw]; simp)]
              exact ⟨fun _ _ => trivial, hskip _ h1 he⟩
            | false =>
              simp only [cond_false] at he
              rw [if_pos (by rw [hw]; rfl)]
              exact (hgo _ h1 he)
        · rename_i hx
          have h2 := hr.get t
          rw [hx] at h2
          have h3 := rr_skipped h2
          have hw : Region.wanted o (yielded ops a.tmps) = false := by
            have hdst' : (ops[j]?).bind (·.dst) = some t := by
              rw [← Array.getElem?_toList]
              rw [List.getD_eq_getElem?_getD, List.getElem?_map] at hdst
              cases hoj : ops.toList[j]? with
              | none => rw [hoj] at hdst; simp at hdst
              | some oj => rw [hoj] at hdst; simpa using hdst
            rw [Array.getD_eq_getD_getElem?] at h3
            cases hat : a.tmps[t]? with
            | none => simp [Region.wanted, hg, yielded, hdst', hat]
            | some y =>
              rw [hat] at h3
              simp only [Option.getD_some] at h3
              subst h3
              simp [Region.wanted, hg, yielded, hdst', hat, Go.undef]
          rw [if_neg (by rw [hw]; simp)]
          exact ⟨fun _ _ => trivial, hskip _ hr he⟩
        · simp at he
      · simp at he
end
end Go.AM
