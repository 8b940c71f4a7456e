/- Part 6 of the proof: the abstract machine, what the functions compute, and plain laws over that. -/
import Derived.Test.YtonknblidjpfeaaSt5
import Derived.Orders
set_option linter.all false
set_option linter.unusedSimpArgs false
set_option linter.unusedVariables false
set_option linter.unusedSectionVars false
namespace Go.AM
open Go
section
variable {E : Env} {hint : Hint} {os : List Oper} {rs : List (Option Nat)}
theorem inlines_congr {regs regs' : List V} {o : Oper} (h : ∀ x ∈ o.op.operands.toList, ∀ κ, val regs' κ x = val regs κ x) : inlines E regs' o = inlines E regs o := by
  unfold inlines
  cases hop : o.op with
  | call c =>
    rw [hop] at h
    simp only [Op.operands] at h
    have hv := fun ts => vals_congr (regs := regs) (regs' := regs') (ty := E.ty) c.args.toList ts fun x hx => h x (by simp at hx ⊢; simp [Call.operands, hx])
    dsimp only
    cases hc : c.callee with
    | value fo =>
      have hf := h fo (by simp [Call.operands, hc])
      dsimp only
      simp only [hf, hv]
    | _ => rfl
  | _ => rfl
theorem filter_one {α : Type} {p : α → Bool} {l : List α} (h : (l.filter p).length = 1) {i j : Nat} {x y : α} (hi : l[i]? = some x) (hj : l[j]? = some y) (hx : p x = true) (hy : p y = true) : i = j := by
  have key : ∀ (i j : Nat) (x y : α), i < j → l[i]? = some x → l[j]? = some y → p x = true → p y = true → False := by
    intro i j x y hij hi hj hx hy
    obtain ⟨hil, rfl⟩ := List.getElem?_eq_some_iff.1 hi
    obtain ⟨hjl, rfl⟩ := List.getElem?_eq_some_iff.1 hj
    have e : l = l.take i ++ l[i] :: l.drop (i + 1) := by simp
    rw [e, List.filter_append, List.filter_cons, if_pos hx] at h
    simp only [List.length_append, List.length_cons] at h
    have hm : l[j] ∈ (l.drop (i + 1)).filter p := by
      rw [List.mem_filter]
      refine ⟨?_, hy⟩
      rw [List.mem_drop_iff_getElem]
      exact ⟨j - (i + 1), by omega, by congr 1; omega⟩
    have := List.length_pos_of_mem hm
    omega
  rcases Nat.lt_trichotomy i j with h1 | h1 | h1
  · exact (key i j x y h1 hi hj hx hy).elim
  · exact h1
  · exact (key j i y x h1 hj hi hy hx).elim
structure LateIs (os : List Oper) (rs : List (Option Nat)) (j s d : Nat) (o : Oper) (t : Nat) : Prop where
  get : os[j]? = some o
  guard : o.guard = none
  op : o.op = .load t (.tmp s)
  dst : o.dst = some d
  src : ∀ o' ∈ os, o'.dst ≠ some s
  one : ∀ (j' : Nat) (o' : Oper), os[j']? = some o' → o'.dst = some d → j' = j
  rsv : rs.getD j none = none
theorem lateOp_is {j s d : Nat} (h : lateOp os rs j = some (s, d)) : ∃ o t, LateIs os rs j s d o t := by
  unfold lateOp at h
  split at h
  · rename_i o ho
    split at h
    · rename_i t s' d' hg hop hd
      rw [Bool.cond_eq_ite] at h
      split at h
      · rename_i hc
        simp only [Option.some.injEq, Prod.mk.injEq] at h
        obtain ⟨rfl, rfl⟩ := h
        simp only [Bool.and_eq_true] at hc
        obtain ⟨⟨h1, h2⟩, h3⟩ := hc
        have h2' := Nat.eq_of_beq_eq_true h2
        refine ⟨o, t, ho, hg, hop, hd, fun o' h' e => ?_, fun j' o' h' e => ?_, by simpa using h3⟩
        · have := List.all_eq_true.1 h1 o' h'
          rw [e] at this
          simp at this
        · exact filter_one h2' h' ho (by rw [e]; simp) (by rw [hd]; simp)
      · simp at h
    · simp at h
  · simp at h
theorem recheck_is {regs : List V} {H : List AObj} {j : Nat} (h : recheck os rs regs H j = true) : ∃ s d b κ κ0 b1 p1 κ1, lateOp os rs j = some (s, d) ∧ regs.getD s .undef = .ptr b [] κ ∧ H[b]? = some (.var κ0 (.ptr b1 p1 κ1)) ∧ regs.getD d .undef = .ptr b1 p1 κ1 := by
  unfold recheck at h
  split at h
  · rename_i s d hl
    split at h
    · rename_i b κ hs
      split at h
      · rename_i κ0 v hv
        unfold samePtr at h
        split at h
        · rename_i b1 p1 κ1 b2 p2 κ2 hd
          simp only [Bool.and_eq_true, decide_eq_true_eq] at h
          obtain ⟨⟨h1, h2⟩, rfl⟩ := h
          have h1 := Nat.eq_of_beq_eq_true h1
          have h2 : p1 = p2 := by simpa using h2
          subst h1 h2
          exact ⟨s, d, b, κ, κ0, _, _, _, hl, hs, hv, hd⟩
        · simp at h
      · simp at h
    · simp at h
  · simp at h
theorem load_is {H : List AObj} {regs : List V} {type t : Nat} {x : Operand} {v : V} {e : Eff} (h : (evOp E hint H regs type (.load t x) fun v e => some (v, e)) = some (v, e)) : e = .none ∧ ∀ b p κ, val regs .bad x = .ptr b p κ → κ = E.ty t := by
  simp only [evOp] at h
  split at h
  · rename_i b p κ hv
    split at h
    · rename_i hκ
      refine ⟨?_, fun b' p' κ' h' => by rw [hv] at h'; simp only [V.ptr.injEq] at h'; rw [← h'.2.2]; exact hκ⟩
      split at h
      · obtain ⟨v', _, h⟩ := selV_ok h
        simp only [Option.some.injEq, Prod.mk.injEq] at h
        exact h.2.symm
      · simp only [Option.some.injEq, Prod.mk.injEq] at h
        exact h.2.symm
      · simp at h
    · simp at h
  · rename_i κ y hv
    split at h
    · simp only [Option.some.injEq, Prod.mk.injEq] at h
      exact ⟨h.2.symm, fun b' p' κ' h' => by rw [hv] at h'; simp at h'⟩
    · simp at h
  · simp at h
theorem getD_setD_same {regs : List V} {d : Nat} {v u : V} (h : (setD regs (some d) v).getD d .undef = u) (hu : u ≠ .undef) : v = u := by
  simp only [setD, List.getD_eq_getElem?_getD, List.getElem?_set] at h
  by_cases hd : d < regs.length
  · simpa [hd] using h
  · simp [hd] at h; exact absurd h.symm hu
theorem out_late {j s d : Nat} {o : Oper} {t : Nat} (L : LateIs os rs j s d o t) {regs : List V} {H : List AObj} {v : V} {e : Eff} {l : Log} (h : Out E hint os rs j o regs H v e l) :
    e = .none ∧ (evOp E hint H regs o.type (.load t (.tmp s)) fun v e => some (v, e)) = some (v, e) := by
  rcases h with ⟨_, h, _⟩ | ⟨⟨j', w, t', hg, _⟩, _⟩
  · rw [L.rsv, L.op] at h
    exact ⟨(load_is (hint := hint) (type := o.type) h).1, h⟩
  · rw [L.guard] at hg; simp at hg
theorem seg_late : ∀ {L : List Nat} {r : List V} {H : List AObj} {r1 : List V} {H1 : List AObj} {ls : List Log}, Seg E hint os rs L r H r1 H1 ls → (∀ j ∈ L, ∃ s d, lateOp os rs j = some (s, d)) →
    H1 = H ∧ ∀ t, (∀ j ∈ L, ∀ o, os[j]? = some o → o.dst ≠ some t) → r1.getD t .undef = r.getD t .undef
  | [], r, H, r1, H1, ls, h, _ => by
    obtain ⟨rfl, rfl, _⟩ := h
    exact ⟨rfl, fun _ _ => rfl⟩
  | j :: L, r, H, r1, H1, ls, h, hl => by
    obtain ⟨o, v, e, l, ls', ho, _, _, hout, hseg⟩ := h
    obtain ⟨s, d, hlo⟩ := hl j (by simp)
    obtain ⟨o', t, hL⟩ := lateOp_is hlo
    have : o = o' := by have := hL.get; rw [ho] at this; simpa using this
    subst this
    obtain ⟨rfl, _⟩ := out_late hL hout
    obtain ⟨g1, g2⟩ := seg_late hseg fun j' h' => hl j' (by simp [h'])
    refine ⟨g1, fun t ht => ?_⟩
    rw [g2 t fun j' h' => ht j' (by simp [h']), hL.dst]
    have := ht j (by simp) o ho
    rw [hL.dst] at this
    exact getD_setD fun e => this (by rw [e])
theorem seg_behind {H' : List AObj} {dm : Option Nat} {v : V} : ∀ {L : List Nat} {r : List V} {H : List AObj} {r1 : List V} {H1 : List AObj} {ls : List Log}, Seg E hint os rs L r H r1 H1 ls → L.Nodup → (∀ j ∈ L, recheck os rs r1 H' j = true) →
    (∀ j ∈ L, ∀ s d, lateOp os rs j = some (s, d) → dm ≠ some d ∧ dm ≠ some s) → Seg E hint os rs L (setD r dm v) H' (setD r1 dm v) H' (L.map (relog os rs r1))
  | [], r, H, r1, H1, ls, h, _, _, _ => by
    obtain ⟨rfl, _, _⟩ := h
    exact ⟨rfl, rfl, rfl⟩
  | j :: L, r, H, r1, H1, ls, h, hnd, hre, hdm => by
    obtain ⟨o, vj, e, l, ls', ho, _, _, hout, hseg⟩ := h
    obtain ⟨s, d, b, κ, κ0, b1, p1, κ1, hlo, hs, hb, hd⟩ := recheck_is (hre j (by simp))
    obtain ⟨o', t, hL⟩ := lateOp_is hlo
    have : o = o' := by have := hL.get; rw [ho] at this; simpa using this
    subst this
    obtain ⟨rfl, hev⟩ := out_late hL hout
    obtain ⟨hnj, hnd'⟩ := List.nodup_cons.1 hnd
    obtain ⟨g1, g2⟩ := seg_late hseg fun j' h' => by
      obtain ⟨s, d, _, _, _, _, _, _, h, _⟩ := recheck_is (hre j' (by simp [h']))
      exact ⟨s, d, h⟩
    have e1 := g2 d fun j' h' o'' ho'' hd'' => hnj (by rw [← hL.one j' o'' ho'' hd'']; exact h')
    have e2 := g2 s fun j' h' o'' ho'' hd'' => hL.src o'' (List.mem_of_getElem? ho'') hd''
    rw [hd, hL.dst] at e1
    have hvj : vj = .ptr b1 p1 κ1 := getD_setD_same e1.symm (by simp)
    obtain ⟨hm1, hm2⟩ := hdm j (by simp) s d hlo
    have hsd : s ≠ d := fun e => hL.src o (List.mem_of_getElem? ho) (by rw [hL.dst, e])
    have e3 : r.getD s .undef = .ptr b [] κ := by
      rw [hs, hL.dst] at e2
      rw [e2, getD_setD (fun e => hsd e.symm)]
    have hκ : κ = E.ty t := (load_is hev).2 b [] κ e3
    have e4 : (setD r dm v).getD s .undef = .ptr b [] κ := by
      cases dm with
      | none => exact e3
      | some q => rw [getD_setD (fun e => hm2 (by rw [e]))]; exact e3
    have hout' : Out E hint os rs j o (setD r dm v) H' vj .none (relog os rs r1 j) := by
      refine .inl ⟨fun j' w' hg => by rw [hL.guard] at hg; simp at hg, ?_, ?_⟩
      · rw [hL.rsv, hL.op]
        simp only [evOpD, evOp, val, e4]
        rw [if_pos hκ, hb]
        simp only [selV, V.get]
        rw [hvj]
      · rw [hL.rsv, hL.op]
        unfold relog
        rw [hlo]
        simp only [hs, opReads, opRefs, Op.operands, rsvR, List.append_nil, Eff.writes, Eff.still, Option.isSome_none, val]
        have e5 := e4
        rw [List.getD_eq_getElem?_getD] at e5
        simp [e5, mapTag]
    refine ⟨o, vj, .none, relog os rs r1 j, L.map (relog os rs r1), ho, rfl, rfl, hout', ?_⟩
    have hcomm : setD (setD r dm v) o.dst vj = setD (setD r o.dst vj) dm v := by
      rw [hL.dst]
      exact setD_comm fun t ht e => hm1 (by rw [ht, e])
    rw [hcomm]
    exact seg_behind hseg hnd' (fun j' h' => hre j' (by simp [h'])) (fun j' h' => hdm j' (by simp [h']))
end
end Go.AM
namespace Go.AM
open Go Go.RowKit
section
variable {P : Program} {X : List Nat} {B0 : Nat} {w0 : World} {ty : Nat → K} {cd : Cd}
theorem fillVar_ok {μ : List Loc} {H : List AObj} {w : World} (h : HOk ty P.cellsOf cd X B0 w0 μ H w) {b : Nat} {l0 : Loc} (hb0 : μ[b]? = some l0) (hv0 : l0.void) (hH0 : H[b]? = some .dead)
    {t : Nat} (ht : ty t ≠ .bad) {u : V} {y : Value} (hy : RV ty P.cellsOf (M_ X μ H w) μ u (ty t) y) :
    ∃ w' lc, (newVar t y).run P w = .ok ⟨w.heap.size, 0, none⟩ w' ∧ HOk ty P.cellsOf cd X B0 w0 (μ.set b lc) (H.set b (.var (ty t) u)) w' ∧
      (memOf w (X ++ owned μ H)).le (memOf w' (X ++ owned (μ.set b lc) (H.set b (.var (ty t) u)))) ∧ Below B0 w w' ∧ (∀ b : Nat, w.heap[b]? = some (.deferred (some [])) → w'.heap[b]? = some (.deferred (some []))) ∧
      RR ty P.cellsOf (M_ X (μ.set b lc) (H.set b (.var (ty t) u)) w') (μ.set b lc) (.ptr b [] (ty t)) (.pointer (some ⟨w.heap.size, 0, none⟩)) := by
  have hlt : b < μ.length := (List.getElem?_eq_some_iff.1 hb0).1
  refine ⟨{ w with heap := w.heap.push (.cells y.cells t) }, ⟨w.heap.size, 0, 0, ty t, false, false⟩, ?_, ?_⟩
  · simp [newVar, newRow, newObj, Sem.run, run_bind, run_pure]
  have hb : Below w.heap.size w { w with heap := w.heap.push (.cells y.cells t) } :=
    ⟨rfl, rfl, rfl, by simp, fun i hi => by simp only [Array.getElem?_push]; rw [if_neg (by omega)]⟩
  have hmono : ∀ (i : Nat) (l' : Loc), μ[i]? = some l' → ¬ l'.void → (μ.set b ⟨w.heap.size, 0, 0, ty t, false, false⟩)[i]? = some l' := by
    intro i l' h1 h2
    by_cases hi : b = i
    · subst hi; rw [hb0] at h1; simp only [Option.some.injEq] at h1; subst h1; exact absurd hv0 h2
    · rw [List.getElem?_set_ne hi]; exact h1
  obtain ⟨h1, h2, h3, h4⟩ := HOk.fill h (l := ⟨w.heap.size, 0, 0, ty t, false, false⟩) (o := .var (ty t) u) hb0 hv0 hH0 hb (fun b hb => by simp [usesB] at hb; omega) (fun M' hM => by
    refine ⟨rfl, rfl, rfl, ht, y.cells, t, y, ?_, RV.monoV _ _ hM hmono _ _ _ hy, rfl, rfl⟩
    simp)
  refine ⟨h1, h2, h3, h4, .inr ⟨.ptr t, ?_⟩⟩
  simp only [RV]
  exact ⟨⟨t, rfl, rfl⟩, ⟨w.heap.size, 0, 0, ty t, false, false⟩, by rw [List.getElem?_set_self hlt], rfl, trivial, rfl, rfl⟩
theorem fillVarO_ok (T : TyOk P ty) {μ : List Loc} {H : List AObj} {w : World} (h : HOk ty P.cellsOf cd X B0 w0 μ H w) {b : Nat} {l0 : Loc} (hb0 : μ[b]? = some l0) (hv0 : l0.void) (hH0 : H[b]? = some .dead)
    {t : Nat} (ht : ty t ≠ .bad) {u : V} {y : Value} (hy : RV ty P.cellsOf (M_ X μ H w) μ u (ty t) y) {ow : Bool} {ob : AObj} (ho : varObj ow (ty t) u = some ob) :
    ∃ w' lc, (newVar t y).run P w = .ok ⟨w.heap.size, 0, none⟩ w' ∧ HOk ty P.cellsOf cd X B0 w0 (μ.set b lc) (H.set b ob) w' ∧
      (memOf w (X ++ owned μ H)).le (memOf w' (X ++ owned (μ.set b lc) (H.set b ob))) ∧ Below B0 w w' ∧ (∀ b : Nat, w.heap[b]? = some (.deferred (some [])) → w'.heap[b]? = some (.deferred (some []))) ∧
      RR ty P.cellsOf (M_ X (μ.set b lc) (H.set b ob) w') (μ.set b lc) (.ptr b [] (ty t)) (.pointer (some ⟨w.heap.size, 0, none⟩)) := by
  have hlt : b < μ.length := (List.getElem?_eq_some_iff.1 hb0).1
  unfold varObj at ho
  split at ho
  · rename_i n e κ' x hk
    cases hc : (Nat.ble n 4096 && Nat.beq x.parts.length n) with
    | false => rw [hc] at ho; simp at ho
    | true =>
      rw [hc] at ho
      simp only [cond_true, Option.some.injEq] at ho
      subst ho
      simp only [Bool.and_eq_true] at hc
      have hn1 := Nat.le_of_ble_eq_true hc.1
      have hn2 := Nat.eq_of_beq_eq_true hc.2
      have hu := under_of T ht
      rw [hk] at hu
      simp only [descOk] at hu
      simp only [RV] at hy
      obtain ⟨_, hy⟩ := hy
      rw [hk] at hy
      cases x with
      | agg ds =>
        simp only [D.parts] at hn2 ⊢
        simp only [Rep] at hy
        obtain ⟨_, cs, rfl, hreps⟩ := hy
        refine ⟨{ w with heap := w.heap.push (.cells (Value.agg cs).cells t) }, ⟨w.heap.size, 0, n, .array n e, false, true⟩, ?_, ?_⟩
        · simp [newVar, newRow, newObj, Sem.run, run_bind, run_pure]
        have hb : Below w.heap.size w { w with heap := w.heap.push (.cells (Value.agg cs).cells t) } :=
          ⟨rfl, rfl, rfl, by simp, fun i hi => by simp only [Array.getElem?_push]; rw [if_neg (by omega)]⟩
        obtain ⟨h1, h2, h3, h4⟩ := HOk.fill h (l := ⟨w.heap.size, 0, n, .array n e, false, true⟩) (o := .row e true true ds) hb0 hv0 hH0 hb (fun b hb => by simp [usesB] at hb; omega) (fun M' hM => by
          simp only [ObjOk]
          refine ⟨by rw [hn2], trivial, hu.2.2, ?_⟩
          rw [if_neg (by simp)]
          refine ⟨trivial, ⟨by omega, by have : (4096 : Nat) ≤ maxInt := by decide
                                         omega⟩, (Value.agg cs).cells, t, (0, 0), [], cs.toList, [], by simp, by simp [Value.cells], rfl, ?_, by simp [hn2], by simp, .inr ⟨n, hk, fun h8 => (by have h1 := (Reps.size T.szOk _ _ _ hreps).1; simp only [K.kids, List.map_replicate, List.sum_replicate_nat, h8, ksz, Nat.mul_one] at h1; simpa [Value.cells] using h1)⟩⟩
          have := Reps.mono ty hM _ _ _ hreps
          simpa [K.kids, hn2] using this)
        refine ⟨h1, h2, h3, h4, .inr ⟨.ptr t, ?_⟩⟩
        simp only [RV]
        exact ⟨⟨t, rfl, rfl⟩, ⟨w.heap.size, 0, n, .array n e, false, true⟩, by rw [List.getElem?_set_self hlt], rfl, trivial, by rw [hk]; rfl, rfl⟩
      | _ => simp [Rep, K.isAgg] at hy
  · simp only [Option.some.injEq] at ho
    subst ho
    exact fillVar_ok h hb0 hv0 hH0 ht hy
variable {R : Type} {E : Env} {hint : Hint}
theorem fill_ok {ro : Option Nat} {n : Nat} (T : TyOk P E.ty) {μ : List Loc} {H : List AObj} {w : World} {regs : List V} {a : Act} {o : Oper} {v : V} {e : Eff} {next : Act → World → Prop} {Q : Exit → Act → World → Prop} {b base : Nat} {l0 : Loc}
    (h : HOk E.ty P.cellsOf E.rnd X B0 w0 μ H w) (hr : Regs P E.ty (M_ X μ H w) μ regs a.tmps) (hb0 : μ[b]? = some l0) (hv0 : l0.void) (hbase : base ≤ b)
    (he : (evOpD E hint H regs o.type o.op (some b) fun v e => some (v, e)) = some (v, e))
    (hn : ∀ μ' w' x, RR E.ty P.cellsOf (M_ X μ' (e.app H) w') μ' v x → HOk E.ty P.cellsOf E.rnd X B0 w0 μ' (e.app H) w' → Regs P E.ty (M_ X μ' (e.app H) w') μ' regs a.tmps → Fut X B0 base μ H w μ' (e.app H) w' →
      (∀ i, i ≠ b → μ'[i]? = μ[i]?) → next (a.put o.dst x) w') : o.wpIn (Fr ro) n P a w next Q := by
  have hlt : b < μ.length := (List.getElem?_eq_some_iff.1 hb0).1
  have fin : ∀ lc ob w', HOk E.ty P.cellsOf E.rnd X B0 w0 (μ.set b lc) (H.set b ob) w' → (memOf w (X ++ owned μ H)).le (memOf w' (X ++ owned (μ.set b lc) (H.set b ob))) → Below B0 w w' →
      (∀ b : Nat, w.heap[b]? = some (.deferred (some [])) → w'.heap[b]? = some (.deferred (some []))) →
      Regs P E.ty (M_ X (μ.set b lc) (H.set b ob) w') (μ.set b lc) regs a.tmps ∧ Fut X B0 base μ H w (μ.set b lc) (H.set b ob) w' ∧ (∀ i, i ≠ b → (μ.set b lc)[i]? = μ[i]?) := by
    intro lc ob w' g1 g2 g3 g4
    have hset : ∀ i, i ≠ b → (μ.set b lc)[i]? = μ[i]? := fun i hi => List.getElem?_set_ne (Ne.symm hi)
    refine ⟨⟨hr.len, fun i => RR.monoV _ _ g2 (fun i l h1 h2 => ?_) (hr.get i)⟩, ⟨fun i hi => hset i (by omega), by simp; omega, g2, g3, g4⟩, hset⟩
    by_cases hi : i = b
    · subst hi; rw [hb0] at h1; simp only [Option.some.injEq] at h1; subst h1; exact absurd hv0 h2
    · rw [hset i hi]; exact h1
  have he' := he
  unfold evOpD at he
  simp only [] at he
  split at he
  · rename_i hdead
    cases ho : o.op with
    | alloc t =>
      rw [ho] at he
      dsimp only at he
      rw [Bool.cond_eq_ite] at he
      split at he
      · rename_i hok
        have ht : E.ty t ≠ .bad := by intro hb; rw [hb] at hok; simp [K.ok] at hok
        obtain ⟨z, hz, hrep⟩ := run_zeroValue T ht w
        obtain ⟨ob, hob, he⟩ := varObjK_some he
        simp only [Option.some.injEq, Prod.mk.injEq] at he
        obtain ⟨rfl, rfl⟩ := he
        obtain ⟨w', lc, g0, g1, g2, g3, g4, g5⟩ := fillVarO_ok T h hb0 hv0 hdead ht (u := .d (E.ty t) (zero E.ty (E.ty t))) (y := z) (by simp only [RV]; exact ⟨trivial, hrep _⟩) hob
        obtain ⟨k1, k2, k3⟩ := fin lc ob w' g1 g2 g3 g4
        refine wpIn_of_wp (fun c hc => by rw [ho] at hc; simp at hc) (wp_value (x := .pointer (some ⟨w.heap.size, 0, none⟩)) (w' := w') ?_ (hn _ _ _ g5 g1 k1 k2 k3))
        simp only [execOp, ho, Instr.alloc]
        simp only [run_bind, hz, g0, run_pure]
      · simp at he
    | box t x =>
      rw [ho] at he
      dsimp only at he
      split at he
      · rename_i hk
        have hv := kindIs_ok h (val_ok hr (E.ty t) x) hk
        have ht := kindIs_good hk hv
        obtain ⟨ob, hob, he⟩ := varObjK_some he
        simp only [Option.some.injEq, Prod.mk.injEq] at he
        obtain ⟨rfl, rfl⟩ := he
        obtain ⟨w', lc, g0, g1, g2, g3, g4, g5⟩ := fillVarO_ok T h hb0 hv0 hdead ht hv hob
        obtain ⟨k1, k2, k3⟩ := fin lc ob w' g1 g2 g3 g4
        refine wpIn_of_wp (fun c hc => by rw [ho] at hc; simp at hc) (wp_value (x := .pointer (some ⟨w.heap.size, 0, none⟩)) (w' := w') ?_ (hn _ _ _ g5 g1 k1 k2 k3))
        simp only [execOp, ho, Instr.box]
        simp only [run_bind, g0, run_pure]
      · simp at he
    | _ => rw [ho] at he; simp at he
  · simp at he
theorem voids_ok {μ : List Loc} {H : List AObj} {w : World} : ∀ (n : Nat), HOk ty P.cellsOf cd X B0 w0 μ H w →
    HOk ty P.cellsOf cd X B0 w0 (μ ++ List.replicate n void0) (H ++ List.replicate n .dead) w ∧ Fut X B0 μ.length μ H w (μ ++ List.replicate n void0) (H ++ List.replicate n .dead) w
  | 0, h => by simpa using ⟨h, Fut.refl h⟩
  | n + 1, h => by
    obtain ⟨h1, h2⟩ := voids_ok n h
    obtain ⟨h3, h4⟩ := HOk.newAt h1 (l := void0) (o := .dead) (Below.refl _ _) (fun b hb => by simp [usesB] at hb) (fun M' _ => by simp [ObjOk])
    rw [List.replicate_succ', List.replicate_succ', ← List.append_assoc, ← List.append_assoc]
    exact ⟨h3, Fut.trans (by simp) h2 h4⟩
theorem nAlloc_cons (o : Oper) (os : List Oper) : nAlloc (o :: os) = nAlloc os + (if isAlloc o.op = true then 1 else 0) := by
  unfold nAlloc
  rw [List.filter_cons]
  split <;> simp
theorem rsvFrom_spec : ∀ (os : List Oper) (b0 j b : Nat), (rsvFrom b0 os).getD j none = some b → b = b0 + nAlloc (os.take j) ∧ b < b0 + nAlloc os ∧ nAlloc (os.take (j + 1)) = nAlloc (os.take j) + 1
  | [], b0, j, b, h => by simp [rsvFrom] at h
  | o :: os, b0, j, b, h => by
    cases ha : isAlloc o.op with
    | true =>
      simp only [rsvFrom, ha, cond_true] at h
      cases j with
      | zero =>
        simp at h; subst h
        simp [nAlloc_cons, ha]
        simp [nAlloc]
      | succ j =>
        simp only [List.getD_cons_succ] at h
        obtain ⟨h1, h2, h3⟩ := rsvFrom_spec os _ j b h
        simp only [List.take_succ_cons, nAlloc_cons, ha, if_true]
        omega
    | false =>
      simp only [rsvFrom, ha, cond_false] at h
      cases j with
      | zero => simp at h
      | succ j =>
        simp only [List.getD_cons_succ] at h
        obtain ⟨h1, h2, h3⟩ := rsvFrom_spec os _ j b h
        simp only [List.take_succ_cons, nAlloc_cons, ha]
        simp
        omega
theorem nAlloc_take_le (os : List Oper) : ∀ {i j : Nat}, i ≤ j → nAlloc (os.take i) ≤ nAlloc (os.take j) := by
  intro i j hij
  unfold nAlloc
  exact ((List.take_sublist_take_left hij).filter _).length_le
theorem rsvs_spec {os : List Oper} {h0 j b : Nat} (h : (rsvs h0 os).getD j none = some b) : h0 ≤ b ∧ b < h0 + nRsv os := by
  unfold rsvs at h
  unfold nRsv
  cases hc : Nat.ble 2 (nAlloc os) with
  | false => rw [hc] at h; simp at h
  | true =>
    rw [hc] at h
    simp only [cond_true] at h ⊢
    obtain ⟨h1, h2, _⟩ := rsvFrom_spec _ _ _ _ h
    omega
theorem rsvs_inj {os : List Oper} {h0 i j b : Nat} (h : (rsvs h0 os).getD i none = some b) (k : (rsvs h0 os).getD j none = some b) : i = j := by
  unfold rsvs at h k
  cases hc : Nat.ble 2 (nAlloc os) with
  | false => rw [hc] at h; simp at h
  | true =>
    rw [hc] at h k
    simp only [cond_true] at h k
    obtain ⟨h1, _, h2⟩ := rsvFrom_spec _ _ _ _ h
    obtain ⟨k1, _, k2⟩ := rsvFrom_spec _ _ _ _ k
    rcases Nat.lt_trichotomy i j with hij | hij | hij
    · have := nAlloc_take_le os (i := i + 1) (j := j) hij; omega
    · exact hij
    · have := nAlloc_take_le os (i := j + 1) (j := i) hij; omega
end
end Go.AM
namespace Go.AM
open Go Go.RowKit
theorem seg_append {E : Env} {hint : Hint} {os : List Oper} {rs : List (Option Nat)} : ∀ {A B : List Nat} {r r1 r2 : List V} {H H1 H2 : List AObj} {la lb : List Log}, Seg E hint os rs A r H r1 H1 la → Seg E hint os rs B r1 H1 r2 H2 lb → Seg E hint os rs (A ++ B) r H r2 H2 (la ++ lb)
  | [], B, r, r1, r2, H, H1, H2, la, lb, h, k => by obtain ⟨rfl, rfl, rfl⟩ := h; simpa using k
  | i :: A, B, r, r1, r2, H, H1, H2, la, lb, h, k => by
    obtain ⟨o, v, e, l, ls', h1, rfl, h2, h3, h4⟩ := h
    exact ⟨o, v, e, l, ls' ++ lb, h1, rfl, h2, h3, seg_append h4 k⟩
section
variable {P : Program} {X : List Nat} {B0 : Nat} {w0 : World}
variable {R : Type} {E : Env} {hint : Hint} {I : World → Prop} {gl : Nat}
variable (EO : EnvOk P E I gl) (hI : I w0) (hgl : gl ≤ B0)
theorem yielded_of {ops : Array Oper} {M : Mem} {μ : List Loc} {regs : List V} {tmps : Array Value} (hr : Regs P E.ty M μ regs tmps) {j t : Nat} {b : Bool} (hd : (dsts ops.toList).getD j none = some t) (hx : regs.getD t .undef = .d .bool (.bool b)) : yielded ops tmps j = some b := by
  have h2 := (hr.refine hx rfl).2
  have hdst' : (ops[j]?).bind (·.dst) = some t := by
    rw [← Array.getElem?_toList]
    simp only [dsts] at hd
    rw [List.getD_eq_getElem?_getD, List.getElem?_map] at hd
    cases hoj : ops.toList[j]? with
    | none => rw [hoj] at hd; simp at hd
    | some oj => rw [hoj] at hd; simpa using hd
  simp [yielded, hdst', h2, D.b]
theorem wanted_of {ops : Array Oper} {M : Mem} {μ : List Loc} {regs : List V} {tmps : Array Value} (hr : Regs P E.ty M μ regs tmps) {o : Oper} (h : Wanted ops.toList o regs) : Region.wanted o (yielded ops tmps) = true := by
  unfold Region.wanted
  split
  · rfl
  · rename_i j want hg
    obtain ⟨t, h1, h2⟩ := h j want hg
    rw [yielded_of hr h1 h2]
    simp
theorem unwanted_of {ops : Array Oper} {M : Mem} {μ : List Loc} {regs : List V} {tmps : Array Value} (hr : Regs P E.ty M μ regs tmps) {o : Oper} (h : Unwanted ops.toList o regs) : Region.wanted o (yielded ops tmps) = false := by
  obtain ⟨j, want, t, hg, h1, h2⟩ := h
  unfold Region.wanted
  rw [hg]
  simp only []
  rcases h2 with h2 | h2
  · rw [yielded_of hr h1 h2]
    cases want <;> simp
  · have h3 := hr.get t
    rw [h2] at h3
    have h4 := rr_skipped h3
    have hdst' : (ops[j]?).bind (·.dst) = some t := by
      rw [← Array.getElem?_toList]
      simp only [dsts] at h1
      rw [List.getD_eq_getElem?_getD, List.getElem?_map] at h1
      cases hoj : ops.toList[j]? with
      | none => rw [hoj] at h1; simp at h1
      | some oj => rw [hoj] at h1; simpa using h1
    rw [Array.getD_eq_getD_getElem?] at h4
    cases hat : tmps[t]? with
    | none => simp [yielded, hdst', hat]
    | some y =>
      rw [hat] at h4
      simp only [Option.getD_some] at h4
      subst h4
      simp [yielded, hdst', hat, Go.undef]
structure Todo (ops : Array Oper) (listed : Array Bool) (L : List Nat) (m : Nat) : Prop where
  iff : ∀ j, listed.getD j true = false ↔ (j ∈ L ∨ (m ≤ j ∧ j < ops.size))
  sorted : L.Pairwise (· < ·)
  lt : ∀ j ∈ L, j < m
  le : m ≤ ops.size
  closed : ∀ j o, ops[j]? = some o → listed.getD j true = true → ∀ e ∈ o.after, Region.binds .any e = true → listed.getD e.on true = true
  size : listed.size = ops.size
theorem getD_tf {listed : Array Bool} {j : Nat} (h : j < listed.size) : listed.getD j true = listed.getD j false := by
  simp [Array.getD_eq_getD_getElem?, h]
variable {ops : Array Oper}
theorem Todo.waits_listed {listed : Array Bool} {L : List Nat} {m i j : Nat} (T : Todo ops listed L m) (hi : i ∈ Region.ready .any ops listed) (hw : waits (masks ops.toList) j i = true) (hne : j ≠ i) : listed.getD j true = true := by
  obtain ⟨h0, o, ho, hall⟩ := mem_ready.1 hi
  have := waits_spec (all := ops.toList) (S := fun j => listed.getD j true = true ∨ j = i) (i := j) (j := i) ?_ (.inr rfl) hw
  · exact this.resolve_right hne
  · intro j' o' ho' hj' e he hb
    rw [Array.getElem?_toList] at ho'
    rcases hj' with hj' | rfl
    · exact .inl (T.closed j' o' ho' hj' e (by simpa using he) hb)
    · rw [ho] at ho'
      simp only [Option.some.injEq] at ho'
      subst ho'
      have h1 := hall e (by simpa using he) hb
      have hlt : e.on < listed.size := by
        rcases Nat.lt_or_ge e.on listed.size with h | h
        · exact h
        · simp [Array.getElem?_eq_none h] at h1
      exact .inl (by rw [getD_tf hlt]; exact h1)
theorem Todo.head_ready {listed : Array Bool} {L : List Nat} {m : Nat} (T : Todo ops listed L m) (hB : ∀ j o, ops[j]? = some o → ∀ e ∈ o.after, Region.binds .any e = true → e.on < j) {i : Nat}
    (hi : listed.getD i true = false) (hmin : ∀ j, j < i → listed.getD j true = true) : i ∈ Region.ready .any ops listed := by
  have hlt : i < ops.size := by
    rw [← T.size]
    rcases Nat.lt_or_ge i listed.size with h | h
    · exact h
    · simp [Array.getElem?_eq_none h] at hi
  refine mem_ready.2 ⟨hi, ops[i], by simp [hlt], fun e he hb => ?_⟩
  have h1 := hB i ops[i] (by simp [hlt]) e he hb
  rw [← getD_tf (by rw [T.size]; omega)]
  exact hmin _ h1
theorem Todo.done {listed : Array Bool} {L : List Nat} {m : Nat} (T : Todo ops listed L m) (hB : ∀ j o, ops[j]? = some o → ∀ e ∈ o.after, Region.binds .any e = true → e.on < j) (hr : Region.ready .any ops listed = []) : L = [] ∧ m = ops.size := by
  cases hL : L with
  | cons i L' =>
    exfalso
    subst hL
    have hs := List.pairwise_cons.1 T.sorted
    have := T.head_ready hB (i := i) ((T.iff i).2 (.inl (by simp))) (fun j hj => by
      cases hc : listed.getD j true with
      | true => rfl
      | false =>
        exfalso
        rcases (T.iff j).1 hc with h | h
        · rcases List.mem_cons.1 h with rfl | h
          · omega
          · have := hs.1 j h; omega
        · have := T.lt i (by simp); omega)
    rw [hr] at this
    simp at this
  | nil =>
    refine ⟨rfl, ?_⟩
    subst hL
    rcases Nat.lt_or_ge m ops.size with hlt | hge
    · exfalso
      have := T.head_ready hB (i := m) ((T.iff m).2 (.inr ⟨Nat.le_refl _, hlt⟩)) (fun j hj => by
        cases hc : listed.getD j true with
        | true => rfl
        | false =>
          exfalso
          rcases (T.iff j).1 hc with h | h
          · simp at h
          · omega)
      rw [hr] at this
      simp at this
    · exact Nat.le_antisymm T.le hge
theorem Todo.step {listed : Array Bool} {L L' : List Nat} {m m' i : Nat} (T : Todo ops listed L m) (hi : i ∈ Region.ready .any ops listed)
    (hiff : ∀ j, (j ∈ L' ∨ (m' ≤ j ∧ j < ops.size)) ↔ (j ≠ i ∧ (j ∈ L ∨ (m ≤ j ∧ j < ops.size)))) (hs : L'.Pairwise (· < ·)) (hlt : ∀ j ∈ L', j < m') (hle : m' ≤ ops.size) : Todo ops (listed.setIfInBounds i true) L' m' := by
  obtain ⟨h0, o, ho, hall⟩ := mem_ready.1 hi
  have hset : ∀ j, (listed.setIfInBounds i true).getD j true = (if j = i then true else listed.getD j true) := by
    intro j
    split
    · rename_i h
      subst h
      rcases Nat.lt_or_ge j listed.size with h | h
      · simp [h]
      · simp [Array.getElem?_eq_none h]
    · rename_i h
      exact getD_set_ne true (Ne.symm h)
  refine ⟨fun j => ?_, hs, hlt, hle, ?_, by simp [T.size]⟩
  · rw [hset, hiff]
    split
    · rename_i h; simp [h]
    · rename_i h
      rw [T.iff]
      simp [h]
  · intro j o' ho' hj e he hb
    rw [hset] at hj ⊢
    split
    · rfl
    · split at hj
      · rename_i h
        subst h
        rw [ho] at ho'
        simp only [Option.some.injEq] at ho'
        subst ho'
        have h1 := hall e he hb
        have hlt : e.on < listed.size := by
          rcases Nat.lt_or_ge e.on listed.size with h | h
          · exact h
          · simp [Array.getElem?_eq_none h] at h1
        rw [getD_tf hlt]
        exact h1
      · exact T.closed j o' ho' hj e he hb
include EO hI hgl
theorem draw_any {inl : Tgt → List V → List AObj → (V → List AObj → Option R) → Option R} (IN : InlOk P E X B0 w0 inl) {ro : Option Nat} {n0 : Nat} {Q : Exit → Act → World → Prop} {r : R} {k : List V → List AObj → Option R} {rs : List (Option Nat)}
    {base : Nat} {μs : List Loc} {Hs : List AObj} {ws : World} (hB : ∀ j o, ops[j]? = some o → ∀ e ∈ o.after, Region.binds .any e = true → e.on < j) (hA : Apart (masks ops.toList) ops.toList)
    (hinj : ∀ i j b, rs.getD i none = some b → rs.getD j none = some b → i = j) (hbase : ∀ j b, rs.getD j none = some b → base ≤ b)
    (hk : ∀ regs' H' μ' a' w', k regs' H' = some r → HOk E.ty P.cellsOf E.rnd X B0 w0 μ' H' w' → Regs P E.ty (M_ X μ' H' w') μ' regs' a'.tmps → Defs n0 a' w' → Fut X B0 base μs Hs ws μ' H' w' → Q .normal a' w') :
    ∀ (fuel : Nat) (listed : Array Bool) (L : List Nat) (m : Nat) (regs : List V) (H : List AObj) (regs1 : List V) (H1 : List AObj) (ls : List Log) (μ : List Loc) (a : Act) (w : World),
      Todo ops listed L m → fuel = L.length + (ops.size - m) → Seg E hint ops.toList rs L regs H regs1 H1 ls → ls.Pairwise (PairC (masks ops.toList)) → Stop E inl hint ops.toList rs (masks ops.toList) k r m regs1 H1 →
      (∀ j b, listed.getD j true = false → rs.getD j none = some b → ∃ l0 : Loc, μ[b]? = some l0 ∧ l0.void) →
      HOk E.ty P.cellsOf E.rnd X B0 w0 μ H w → Regs P E.ty (M_ X μ H w) μ regs a.tmps → Defs n0 a w → Fut X B0 base μs Hs ws μ H w → wpAnyIn (Fr ro) 0 P .any ops Q fuel listed a w := by
  intro fuel
  induction fuel with
  | zero =>
    intro listed L m regs H regs1 H1 ls μ a w T hf hS hp hst hvd h hr hd F
    have hL : L = [] := List.length_eq_zero_iff.1 (by omega)
    have hm : m = ops.size := by have := T.le; omega
    subst hL hm
    obtain ⟨rfl, rfl, rfl⟩ := hS
    refine ⟨?_, ?_⟩
    · apply List.eq_nil_iff_forall_not_mem.2
      intro j hj
      have := (T.iff j).1 (mem_ready.1 hj).1
      rcases this with h | h
      · simp at h
      · omega
    · rcases hst with ⟨_, hk'⟩ | ⟨o, _, _, ho, _⟩
      · exact hk _ _ _ _ _ hk' h hr hd F
      · simp at ho
  | succ fuel ih =>
    intro listed L m regs H regs1 H1 ls μ a w T hf hS hp hst hvd h hr hd F
    have hlist : ∀ i j, (listed.setIfInBounds i true).getD j true = false → j ≠ i ∧ listed.getD j true = false := by
      intro i j hj
      by_cases hji : j = i
      · subst hji
        rcases Nat.lt_or_ge j listed.size with h | h
        · simp [h] at hj
        · simp [Array.getElem?_eq_none h] at hj
      · exact ⟨hji, by rwa [getD_set_ne true (Ne.symm hji)] at hj⟩
    refine ⟨fun h0 => ?_, fun i hi => ?_⟩
    · obtain ⟨rfl, rfl⟩ := T.done hB h0
      simp at hf
    · have hi0 := (mem_ready.1 hi).1
      rcases (T.iff i).1 hi0 with hiL | ⟨hmi, hin⟩
      · obtain ⟨pre, post, rfl⟩ := List.append_of_mem hiL
        have hsp := List.pairwise_append.1 T.sorted
        have hsc := List.pairwise_cons.1 hsp.2.1
        obtain ⟨li, lt, g1, g2, g3, g4⟩ := seg_front hA pre hS hp (fun b hb => by
          have hbi : b < i := hsp.2.2 b hb i (by simp)
          refine ⟨hbi, ?_⟩
          cases hw : waits (masks ops.toList) b i with
          | false => rfl
          | true =>
            have := T.waits_listed hi hw (by omega)
            rw [(T.iff b).2 (.inl (by simp [hb]))] at this
            simp at this)
        obtain ⟨o, v, e, l, ls', ho, heq, hli, hout, hseg⟩ := g1
        obtain ⟨rfl, rfl⟩ : li = l ∧ lt = ls' := by simpa using heq
        rw [Array.getElem?_toList] at ho
        have T' : Todo ops (listed.setIfInBounds i true) (pre ++ post) m := by
          refine T.step hi (fun j => ?_) ?_ (fun j hj => T.lt j (by rcases List.mem_append.1 hj with h | h <;> simp [h])) T.le
          · constructor
            · rintro (hj | hj)
              · rcases List.mem_append.1 hj with h | h
                · exact ⟨by have := hsp.2.2 j h i (by simp); omega, .inl (by simp [h])⟩
                · exact ⟨by have := hsc.1 j h; omega, .inl (by simp [h])⟩
              · exact ⟨by have := T.lt i (by simp); omega, .inr hj⟩
            · rintro ⟨hne, hj | hj⟩
              · rcases List.mem_append.1 hj with h | h
                · exact .inl (by simp [h])
                · rcases List.mem_cons.1 h with h | h
                  · exact absurd h hne
                  · exact .inl (by simp [h])
              · exact .inr hj
          · exact List.pairwise_append.2 ⟨hsp.1, hsc.2, fun x hx y hy => hsp.2.2 x hx y (by simp [hy])⟩
        have hvd' : ∀ μ' : List Loc, (∀ c : Nat, c < μ.length → μ'[c]? = μ[c]?) → ∀ j b, (listed.setIfInBounds i true).getD j true = false → rs.getD j none = some b → ∃ l0 : Loc, μ'[b]? = some l0 ∧ l0.void := by
          intro μ' hloc j b hj hjb
          obtain ⟨l0, h1, h2⟩ := hvd j b (hlist i j hj).2 hjb
          exact ⟨l0, by rw [hloc b (List.getElem?_eq_some_iff.1 h1).1]; exact h1, h2⟩
        have hnext : ∀ u e' μ' w' x, (some (u, e') : Option (V × Eff)) = some (v, e) → RR E.ty P.cellsOf (M_ X μ' (e'.app H) w') μ' u x → HOk E.ty P.cellsOf E.rnd X B0 w0 μ' (e'.app H) w' → Fut X B0 μ.length μ H w μ' (e'.app H) w' →
            wpAnyIn (Fr ro) 0 P .any ops Q fuel (listed.setIfInBounds i true) (a.put o.dst x) w' := by
          intro u e' μ' w' x hue hv h' F'
          simp only [Option.some.injEq, Prod.mk.injEq] at hue
          obtain ⟨rfl, rfl⟩ := hue
          exact ih _ (pre ++ post) m _ _ regs1 H1 lt μ' _ w' T' (by simp at hf ⊢; omega) hseg g2 hst (hvd' μ' F'.loc) h' ((hr.mono F'.mem (F'.keeps (Nat.le_refl _))).set hv) (hd.next F' (put_defers _ _ _)) (F.trans F.len F')
        unfold wpOpIn
        simp only [ho]
        rcases hout with ⟨hw, hev, _⟩ | ⟨hw, rfl, rfl, _⟩
        · rw [if_pos (wanted_of hr hw)]
          cases hrs : rs.getD i none with
          | none =>
            rw [hrs] at hev
            exact evOp_okIn EO hI hgl (R := V × Eff) h hr hnext hev
          | some b =>
            rw [hrs] at hev
            obtain ⟨l0, hb0, hv0⟩ := hvd i b hi0 hrs
            refine fill_ok EO.ty h hr hb0 hv0 (hbase i b hrs) hev ?_
            intro μ' w' x hv h' hr' F' hset
            refine ih _ (pre ++ post) m _ _ regs1 H1 lt μ' _ w' T' (by simp at hf ⊢; omega) hseg g2 hst ?_ h' (hr'.set hv) (hd.next F' (put_defers _ _ _)) (F.trans (Nat.le_refl _) F')
            intro j b' hj hjb
            obtain ⟨hne, hj'⟩ := hlist i j hj
            obtain ⟨l1, h1, h2⟩ := hvd j b' hj' hjb
            refine ⟨l1, ?_, h2⟩
            rw [hset b' (fun e => hne (hinj j i b (by rw [hjb, e]) hrs))]
            exact h1
        · rw [if_neg (by rw [unwanted_of hr hw]; simp)]
          exact ⟨fun _ _ => trivial, hnext (.tup []) .none μ w Go.undef rfl rr_skip h (Fut.refl h)⟩
      ·
        rcases hst with ⟨hm, _⟩ | ⟨o, g, args, ho, hw, hinl, hbar, hall, he⟩
        · simp at hm; omega
        · have hmlt : m < ops.size := by omega
          have him : i = m := by
            rcases Nat.lt_or_ge m i with hlt | hge
            · exfalso
              have h1 := List.all_eq_true.1 hbar i (by simpa using hin)
              simp only [Bool.or_eq_true, decide_eq_true_eq] at h1
              have h1 := h1.resolve_left (by omega)
              have := T.waits_listed hi h1 (by omega)
              rw [(T.iff m).2 (.inr ⟨Nat.le_refl _, hmlt⟩)] at this
              simp at this
            · omega
          subst him
          have hlate : ∀ j ∈ L, j ∈ late (masks ops.toList) i := by
            intro j hj
            have hji := T.lt j hj
            unfold late
            rw [List.mem_filter]
            refine ⟨by simpa using hji, ?_⟩
            cases hw' : waits (masks ops.toList) j i with
            | false => rfl
            | true =>
              have := T.waits_listed hi hw' (by omega)
              rw [(T.iff j).2 (.inl hj)] at this
              simp at this
          have hol : ops.toList[i]? = some o := ho
          rw [Array.getElem?_toList] at ho
          have hnames : ∀ j ∈ L, ∀ oj, ops.toList[j]? = some oj → ∀ t, oj.dst = some t → names (dsts ops.toList) o t = false := by
            intro j hj oj hoj t ht
            have hji := T.lt j hj
            have hnw : waits (masks ops.toList) j i = false := by
              have := hlate j hj
              unfold late at this
              rw [List.mem_filter] at this
              simpa using this.2
            have := (hA j i oj o hji hoj hol).resolve_left (by simp [hnw])
            simp only [apart, Bool.and_eq_true] at this
            have h1 := this.1
            rw [ht] at h1
            simpa using h1
          have key : ∀ (L' : List Nat) (r0 : List V) (H0 : List AObj) (r2 : List V) (H2 : List AObj) (l2 : List Log), (∀ j ∈ L', j ∈ L) → Seg E hint ops.toList rs L' r0 H0 r2 H2 l2 → ∀ t, names (dsts ops.toList) o t = true → r2.getD t .undef = r0.getD t .undef := by
            intro L'
            induction L' with
            | nil => intro r0 H0 r2 H2 l2 _ hS t _; obtain ⟨rfl, _, _⟩ := hS; rfl
            | cons j L' ih' =>
              intro r0 H0 r2 H2 l2 hsub hS t ht
              obtain ⟨oj, vj, ej, lj, lr, hoj, _, _, _, hS'⟩ := hS
              rw [ih' _ _ _ _ _ (fun j' h' => hsub j' (by simp [h'])) hS' t ht]
              cases hdj : oj.dst with
              | none => rfl
              | some d =>
                have := hnames j (hsub j (by simp)) oj hoj d hdj
                exact getD_setD (fun e => by rw [e] at this; rw [this] at ht; simp at ht)
          have hkey := key L regs H regs1 H1 ls (fun _ h => h) hS
          have hval : ∀ x ∈ o.op.operands.toList, ∀ κ, val regs1 κ x = val regs κ x := by
            intro x hx κ
            cases x with
            | tmp t =>
              exact hkey t (by
                unfold names
                simp only [Bool.or_eq_true, List.any_eq_true]
                exact .inl (.inl ⟨_, hx, by simp [isTmp]⟩))
            | _ => rfl
          have hinl' : inlines E regs o = some (g, args) := by rw [← inlines_congr hval]; exact hinl
          have hw' : Wanted ops.toList o regs := by
            intro j want hg
            obtain ⟨t, h1, h2⟩ := hw j want hg
            refine ⟨t, h1, ?_⟩
            rw [← hkey t (by
              unfold names
              rw [hg]
              simp only [h1]
              simp)]
            exact h2
          unfold wpOpIn
          simp only [ho]
          rw [if_pos (wanted_of hr hw')]
          have hlo : ∀ j ∈ L, ∃ s d, lateOp ops.toList rs j = some (s, d) := by
            intro j hj
            have := List.all_eq_true.1 hall j (hlate j hj)
            obtain ⟨p, hp⟩ := Option.isSome_iff_exists.1 this
            exact ⟨p.1, p.2, hp⟩
          obtain ⟨rfl, _⟩ := seg_late hS hlo
          refine inlines_ok EO IN h hr hinl' he ?_
          intro v H' μ' w' x hk' hv h' F'
          cases hre : (late (masks ops.toList) i).all (recheck ops.toList rs regs1 H') with
          | false => rw [hre] at hk'; simp at hk'
          | true =>
            rw [hre] at hk'
            simp only [cond_true] at hk'
            have hre' : ∀ j ∈ L, recheck ops.toList rs regs1 H' j = true := fun j hj => List.all_eq_true.1 hre j (hlate j hj)
            have hsplit : ops.toList = ops.toList.take (i + 1) ++ ops.toList.drop (i + 1) := (List.take_append_drop _ _).symm
            have hlen : (ops.toList.take (i + 1)).length = i + 1 := by simp; omega
            obtain ⟨c, regs2, H2, ls2, q1, q2, q3, q4⟩ := evDraw_seg (ops.toList.drop (i + 1)) (ops.toList.take (i + 1)) _ _ _ hsplit (by rw [hlen]; exact hk')
            rw [hlen] at q1 q3 q4
            simp only [Array.length_toList] at q3
            have hnd : L.Nodup := T.sorted.imp (fun h => Nat.ne_of_lt h)
            have hdm : ∀ j ∈ L, ∀ s d, lateOp ops.toList rs j = some (s, d) → o.dst ≠ some d ∧ o.dst ≠ some s := by
              intro j hj s d hl
              obtain ⟨oj, t, hL⟩ := lateOp_is hl
              refine ⟨fun e => ?_, fun e => hL.src o (List.mem_of_getElem? hol) e⟩
              have := hL.one i o hol e
              have := T.lt j hj
              omega
            have hS' := seg_behind (v := v) hS hnd hre' hdm
            refine ih _ (L ++ List.range' (i + 1) c) (i + 1 + c) _ _ regs2 H2 (L.map (relog ops.toList rs regs1) ++ ls2) μ' _ w' ?_ (by simp at hf ⊢; omega) (seg_append hS' q1) ?_ q4 ?_ h' ((hr.mono F'.mem (F'.keeps (Nat.le_refl _))).set hv) (hd.next F' (put_defers _ _ _)) (F.trans F.len F')
            · refine T.step hi (fun j => ?_) ?_ (fun j hj => ?_) q3
              · rw [List.mem_append, List.mem_range'_1]
                constructor
                · rintro ((hj | hj) | hj)
                  · have := T.lt j hj; exact ⟨by omega, .inl hj⟩
                  · exact ⟨by omega, .inr (by omega)⟩
                  · exact ⟨by omega, .inr (by omega)⟩
                · rintro ⟨hne, hj | hj⟩
                  · exact .inl (.inl hj)
                  · by_cases hjc : j < i + 1 + c
                    · exact .inl (.inr (by omega))
                    · exact .inr (by omega)
              · exact List.pairwise_append.2 ⟨T.sorted, List.pairwise_lt_range', fun x hx y hy => by have := T.lt x hx; rw [List.mem_range'_1] at hy; omega⟩
              · rcases List.mem_append.1 hj with hj | hj
                · have := T.lt j hj; omega
                · rw [List.mem_range'_1] at hj; omega
            · have hpw := pairsOk_spec _ q2
              rw [List.pairwise_append] at hpw ⊢
              refine ⟨?_, hpw.2.1, fun x hx y hy => ?_⟩
              · rw [List.pairwise_map]
                refine hnd.imp fun _ => ?_
                refine .inr ?_
                simp [indep, relog, disj]
              · obtain ⟨j, hj, rfl⟩ := List.mem_map.1 hx
                exact hpw.2.2 _ (List.mem_map.2 ⟨j, hlate j hj, rfl⟩) y hy
            · intro j b hj hjb
              obtain ⟨l0, h1, h2⟩ := hvd j b (hlist i j hj).2 hjb
              exact ⟨l0, by rw [F'.loc b (List.getElem?_eq_some_iff.1 h1).1]; exact h1, h2⟩
theorem draw_ok {inl : Tgt → List V → List AObj → (V → List AObj → Option R) → Option R} (IN : InlOk P E X B0 w0 inl) {ro : Option Nat} {n0 : Nat} {id : Nat} {Q : Exit → Act → World → Prop} {r : R} {k : List V → List AObj → Option R}
    {base : Nat} {regs : List V} {H : List AObj} {μ : List Loc} {a : Act} {w : World} (hD : drawOk (masks ops.toList) ops.toList = true)
    (he : evDraw E inl hint (masks ops.toList) ops.size (ops.toList.map (·.dst)) (rsvs H.length ops.toList) ops.toList ops.toList 0 [] regs (H ++ List.replicate (nRsv ops.toList) .dead) k = some r)
    (h : HOk E.ty P.cellsOf E.rnd X B0 w0 μ H w) (hr : Regs P E.ty (M_ X μ H w) μ regs a.tmps) (hd : Defs n0 a w) (hb : base ≤ μ.length)
    (hk : ∀ regs' H' μ' a' w', k regs' H' = some r → HOk E.ty P.cellsOf E.rnd X B0 w0 μ' H' w' → Regs P E.ty (M_ X μ' H' w') μ' regs' a'.tmps → Defs n0 a' w' → Fut X B0 base μ H w μ' H' w' → Q .normal a' w') : (Code.region id ops true).wpIn (Fr ro) 0 P Q a w := by
  simp only [drawOk, Bool.and_eq_true] at hD
  refine wpIn_region_any EO.mixed ?_
  have hgrow := h.grow (w' := { w with drawn := w.drawn + 1 }) ⟨rfl, rfl, rfl, Nat.le_refl _, fun _ _ => rfl⟩
  obtain ⟨v1, v2⟩ := voids_ok (nRsv ops.toList) hgrow.1
  have v3 := Fut.trans (Nat.le_refl _) hgrow.2 v2
  obtain ⟨c, regs2, H2, ls2, q1, q2, q3, q4⟩ := evDraw_seg (os := ops.toList) ops.toList [] [] _ _ rfl he
  simp only [List.length_nil, Nat.zero_add, Array.length_toList] at q1 q3 q4
  refine draw_any EO hI hgl IN (ro := ro) (n0 := n0) (rs := rsvs H.length ops.toList) ?_ ?_ (fun i j b => rsvs_inj) (fun j b hj => by have := (rsvs_spec hj).1; have := h.len; omega) hk ops.size _ (List.range' 0 c) c _ _ regs2 H2 ls2 _ a _ ?_ (by simp; omega) q1 (pairsOk_spec _ (by simpa using q2)) q4 ?_ v1 (hr.mono v3.mem (v3.keeps (Nat.le_refl _))) (hd.next v3 rfl) ⟨fun i hi => v3.loc i (by omega), by have := v3.len; omega, v3.mem, v3.below, v3.dfr⟩
  · intro j o ho e he hb
    exact backward_spec ops.toList [] rfl hD.1 j o (Nat.zero_le _) (by rw [Array.getElem?_toList]; exact ho) e (by simpa using he) hb
  · intro i j x y hij hx hy
    exact apartAll_spec ops.toList [] rfl hD.2 i j x y (Nat.zero_le _) hij hx hy
  · refine ⟨fun j => ?_, List.pairwise_lt_range', fun j hj => by rw [List.mem_range'_1] at hj; omega, q3, ?_, by simp⟩
    · rw [List.mem_range'_1]
      rcases Nat.lt_or_ge j ops.size with hlt | hge
      · simp [Array.getD_eq_getD_getElem?, hlt]; omega
      · simp [Array.getD_eq_getD_getElem?, Array.getElem?_eq_none, hge]; omega
    · intro j o ho hj e he hb
      have hlt : j < ops.size := (Array.getElem?_eq_some_iff.1 ho).1
      simp [Array.getD_eq_getD_getElem?, hlt] at hj
  · intro j b _ hjb
    obtain ⟨h1, h2⟩ := rsvs_spec hjb
    have := h.len
    refine ⟨void0, ?_, void0_void⟩
    rw [List.getElem?_append_right (by omega), List.getElem?_replicate, if_pos (by omega)]
end
end Go.AM
namespace Go.AM
open Go Go.RowKit
theorem regs_rvt {P : Program} {ty : Nat → K} {M : Mem} {μ : List Loc} {regs : List V} {tmps : Array Value} (h : Regs P ty M μ regs tmps) : RVt ty P.cellsOf M μ regs tmps.toList := by
  have key : ∀ (us : List V) (xs : List Value), us.length = xs.length → (∀ i, RR ty P.cellsOf M μ (us.getD i .undef) (xs.getD i Go.undef)) → RVt ty P.cellsOf M μ us xs := by
    intro us
    induction us with
    | nil => intro xs hl _; simp only [RVt]; exact List.length_eq_zero_iff.1 hl.symm
    | cons u us ih =>
      intro xs hl hg
      cases xs with
      | nil => simp at hl
      | cons x xs =>
        simp only [RVt]
        exact ⟨x, xs, rfl, hg 0, ih xs (by simpa using hl) (fun i => hg (i + 1))⟩
  refine key _ _ (by simpa using h.len) (fun i => ?_)
  have := h.get i
  rwa [show tmps.toList.getD i Go.undef = tmps.getD i Go.undef by rw [List.getD_eq_getElem?_getD, Array.getD_eq_getD_getElem?, Array.getElem?_toList]]
theorem rvt_regs {P : Program} {ty : Nat → K} {M : Mem} {μ : List Loc} {regs : List V} {tmps : Array Value} (h : RVt ty P.cellsOf M μ regs tmps.toList) : Regs P ty M μ regs tmps := by
  have key : ∀ (us : List V) (xs : List Value), RVt ty P.cellsOf M μ us xs → us.length = xs.length ∧ (∀ i, RR ty P.cellsOf M μ (us.getD i .undef) (xs.getD i Go.undef)) := by
    intro us
    induction us with
    | nil => intro xs h; simp only [RVt] at h; subst h; exact ⟨rfl, fun i => .inl (by simp)⟩
    | cons u us ih =>
      intro xs h
      simp only [RVt] at h
      obtain ⟨x, rest, rfl, h1, h2⟩ := h
      obtain ⟨g1, g2⟩ := ih rest h2
      refine ⟨by simp [g1], fun i => ?_⟩
      cases i with
      | zero => exact h1
      | succ i => exact g2 i
  obtain ⟨g1, g2⟩ := key _ _ h
  refine ⟨by simpa using g1, fun i => ?_⟩
  have := g2 i
  rwa [show tmps.toList.getD i Go.undef = tmps.getD i Go.undef by rw [List.getD_eq_getElem?_getD, Array.getD_eq_getD_getElem?, Array.getElem?_toList]] at this
theorem setPs_ok {P : Program} {ty : Nat → K} {M : Mem} {μ : List Loc} : ∀ (ps : List Nat) (vs : List V) (xs : List Value) (regs : List V) (tmps : Array Value), ps.length = vs.length → RVt ty P.cellsOf M μ vs xs → Regs P ty M μ regs tmps →
    Regs P ty M μ (setPs ps vs regs) ((ps.zip xs).foldl (fun t (p : Nat × Value) => t.setIfInBounds p.1 p.2) tmps)
  | [], vs, xs, regs, tmps, hl, hv, hr => by
    cases vs with
    | nil => simpa [setPs] using hr
    | cons v vs => simp at hl
  | p :: ps, vs, xs, regs, tmps, hl, hv, hr => by
    cases vs with
    | nil => simp at hl
    | cons v vs =>
      simp only [RVt] at hv
      obtain ⟨x, rest, rfl, h1, h2⟩ := hv
      simp only [setPs, List.zip_cons_cons, List.foldl_cons]
      refine setPs_ok ps vs rest _ _ (by simpa using hl) h2 ⟨by simp [hr.len], fun i => ?_⟩
      have := (Regs.set (a := { tmps := tmps, defers := [] }) (dst := some p) hr h1).get i
      simpa [setD, Act.put] using this
section
variable {ty : Nat → K} {sz : Nat → Nat} {cd : Cd} {X : List Nat} {B0 : Nat} {w0 w : World} {μ : List Loc} {H : List AObj}
theorem HOk.forget (h : HOk ty sz cd X B0 w0 μ H w) {i : Nat} {l : Loc} {o : AObj} (hμ : μ[i]? = some l) (hH : H[i]? = some o) :
    HOk ty sz cd X B0 w0 μ (H.set i .dead) w ∧ Fut X B0 μ.length μ H w μ (H.set i .dead) w := by
  have hO : ∀ j b, Own μ (H.set i .dead) j b → Own μ H j b := fun j b hj => own_set_sub hμ hH (fun b hb => by simp [ownB] at hb) j b hj
  have hU : ∀ j b, Uses μ (H.set i .dead) j b → Uses μ H j b := fun j b hj => uses_set_sub hμ hH (fun b hb => by simp [usesB] at hb) j b hj
  have hle : (memOf w (X ++ owned μ H)).le (memOf w (X ++ owned μ (H.set i .dead))) := memOf_leX (fun _ _ _ => rfl) (fun b hb => .inl (by
    obtain ⟨j, hj⟩ := mem_owned.1 hb
    exact mem_owned.2 ⟨j, hO j b hj⟩))
  refine ⟨⟨by simp [h.len], ?_, fun a c b h1 h2 => h.inj a c b (hO _ _ h1) (hU _ _ h2), fun a b h1 => h.low a b (hU _ _ h1), h.resv, h.below, h.size⟩, ⟨fun _ _ => rfl, Nat.le_refl _, hle, Below.refl _ _, fun _ h => h⟩⟩
  intro j l1 o1 h1 h2
  by_cases hj : j = i
  · subst hj
    rw [List.getElem?_set_self (h.lt hμ)] at h2
    simp only [Option.some.injEq] at h2
    subst h2; trivial
  · rw [List.getElem?_set_ne (fun h => hj h.symm)] at h2
    exact ObjOk.mono hle (fun _ _ h => h) (fun _ _ => rfl) (h.obj j l1 o1 h1 h2)
theorem cell_none_of {w : World} {b o : Nat} {x : Obj} (h : w.heap[b]? = some x) (hx : x.isCells = false) : w.cell? ⟨b, o, none⟩ = none := by
  simp only [World.cell?]
  rw [h]
  cases x <;> simp_all [Obj.isCells]
theorem HOk.other (h : HOk ty sz cd X B0 w0 μ H w) {b : Nat} {x y : Obj} (hb : B0 ≤ b) (hx : w.heap[b]? = some x) (hxc : x.isCells = false) (hyc : y.isCells = false) (hnu : ∀ i, ¬ Uses μ H i b) :
    HOk ty sz cd X B0 w0 μ H (w.putObj b y) ∧ (memOf w (X ++ owned μ H)).le (memOf (w.putObj b y) (X ++ owned μ H)) ∧ Below B0 w (w.putObj b y) ∧ (∀ k, k ≠ b → (w.putObj b y).heap[k]? = w.heap[k]?) := by
  have hlt := lt_of_block hx
  have hne : ∀ k, k ≠ b → (w.putObj b y).heap[k]? = w.heap[k]? := fun k hk => World.putObj_heap_other hk
  have hself : (w.putObj b y).heap[b]? = some y := World.putObj_heap_same hlt
  have hle : (memOf w (X ++ owned μ H)).le (memOf (w.putObj b y) (X ++ owned μ H)) := by
    intro b' o' v hv
    simp only [memOf] at hv ⊢
    split at hv
    · simp at hv
    · rename_i hn
      rw [if_neg hn]
      by_cases hbb : b' = b
      · subst hbb
        rw [cell_none_of hx hxc] at hv
        simp at hv
      · simp only [World.cell?] at hv ⊢
        rw [hne b' hbb]
        exact hv
  have hbel : Below B0 w (w.putObj b y) := ⟨rfl, rfl, rfl, by simp, fun k hk => hne k (by omega)⟩
  refine ⟨⟨h.len, fun j l o h1 h2 => ?_, h.inj, h.low, h.resv, h.below.trans hbel, by simpa using h.size⟩, hle, hbel, hne⟩
  refine ObjOk.mono hle (fun _ _ h => h) (fun b' hb' => hne b' ?_) (h.obj j l o h1 h2)
  rintro rfl
  exact hnu j ⟨l, o, h1, h2, hb'⟩
theorem putObj_putBlk {w : World} {b : Nat} {o : Obj} : w.putObj b o = putBlk w b o := rfl
theorem HOk.record (h : HOk ty sz cd X B0 w0 μ H w) {b f : Nat} {l : Loc} {st st' : LSt} {u : V} {id : Nat} {r r' : Loop} (hμ : μ[b]? = some l) (hH : H[b]? = some (.loop st f id u))
    (hr : w.heap[l.blk]? = some (.loop r)) (h1 : r'.params = r.params) (h2 : r'.assign = r.assign) (h3 : r'.body = r.body) (h4 : r'.tmps = r.tmps) (hst : st'.of r') :
    HOk ty sz cd X B0 w0 μ (H.set b (.loop st' f id u)) (w.putObj l.blk (.loop r')) ∧ Fut X B0 μ.length μ H w μ (H.set b (.loop st' f id u)) (w.putObj l.blk (.loop r')) := by
  have hobj := h.obj b l _ hμ hH
  simp only [ObjOk] at hobj
  obtain ⟨r0, e1, e2, e3, e6⟩ := hobj
  rw [hr] at e1
  simp only [Option.some.injEq, Obj.loop.injEq] at e1
  subst e1
  rw [putObj_putBlk]
  exact HOk.put h (o' := .loop st' f id u) (obj := .loop r') hμ hH rfl rfl (by
    simp only [ObjOk]
    exact ⟨r', by rw [putBlk_heap, if_pos ⟨rfl, lt_of_block hr⟩], hst, by rw [h1, h2, h3]; exact e3, by rw [h4]; exact e6⟩)
end
theorem findRound_ok : ∀ (l : List (Nat × List Nat × Code × Code)), distinct (l.map (·.1)) = true → ∀ x ∈ l, findRound x.1 l = some x.2
  | [], _, x, h => by simp at h
  | y :: l, hd, x, h => by
    simp only [List.map_cons, distinct, Bool.and_eq_true, Bool.not_eq_true'] at hd
    simp only [findRound]
    rcases List.mem_cons.1 h with rfl | h
    · simp
    · have : (y.1 == x.1) = false := by
        cases hy : (y.1 == x.1) with
        | false => rfl
        | true =>
          have hyx : y.1 = x.1 := by simpa using hy
          have : (l.map (·.1)).contains y.1 = true := List.contains_iff_mem.2 (List.mem_map.2 ⟨x, h, hyx.symm⟩)
          rw [this] at hd; simp at hd
      rw [this]
      exact findRound_ok l hd.2 x h
def Found (E : Env) (f : Nat) (c : Code) : Prop := ∀ x ∈ rounds c, E.rnd f x.1 = some x.2
theorem found_body {E : Env} {f : Nat} {fn : Func} {c : Code} (hf : E.fn f = some fn) (hb : fn.body = some c) (h : roundsOk fn = true) : Found E f c := by
  intro x hx
  simp only [Env.rnd, hf, hb]
  simp only [roundsOk, hb] at h
  exact findRound_ok _ h x hx
theorem rounds_sub : ∀ (c : Code) (x : Nat × List Nat × Code × Code), x ∈ rounds c → (∀ y ∈ rounds x.2.2.1, y ∈ rounds c) ∧ (∀ y ∈ rounds x.2.2.2, y ∈ rounds c) := by
  intro c
  induction c with
  | seq a b iha ihb =>
    intro x hx
    simp only [rounds, List.mem_append] at hx ⊢
    rcases hx with hx | hx
    · exact ⟨fun y hy => .inl ((iha x hx).1 y hy), fun y hy => .inl ((iha x hx).2 y hy)⟩
    · exact ⟨fun y hy => .inr ((ihb x hx).1 y hy), fun y hy => .inr ((ihb x hx).2 y hy)⟩
  | cond _ a b iha ihb =>
    intro x hx
    simp only [rounds, List.mem_append] at hx ⊢
    rcases hx with hx | hx
    · exact ⟨fun y hy => .inl ((iha x hx).1 y hy), fun y hy => .inl ((iha x hx).2 y hy)⟩
    · exact ⟨fun y hy => .inr ((ihb x hx).1 y hy), fun y hy => .inr ((ihb x hx).2 y hy)⟩
  | block _ c ih => intro x hx; exact ih x hx
  | loop c ih => intro x hx; exact ih x hx
  | scope c ih => intro x hx; exact ih x hx
  | rangeFunc _ _ a b iha ihb =>
    intro x hx
    simp only [rounds, List.mem_cons, List.mem_append] at hx ⊢
    rcases hx with rfl | hx | hx
    · exact ⟨fun y hy => .inr (.inl hy), fun y hy => .inr (.inr hy)⟩
    · exact ⟨fun y hy => .inr (.inl ((iha x hx).1 y hy)), fun y hy => .inr (.inl ((iha x hx).2 y hy))⟩
    · exact ⟨fun y hy => .inr (.inr ((ihb x hx).1 y hy)), fun y hy => .inr (.inr ((ihb x hx).2 y hy))⟩
  | _ => intro x hx; simp [rounds] at hx
theorem findRound_mem : ∀ {l : List (Nat × List Nat × Code × Code)} {id : Nat} {y : List Nat × Code × Code}, findRound id l = some y → (id, y) ∈ l
  | [], _, _, h => by simp [findRound] at h
  | x :: l, id, y, h => by
    simp only [findRound] at h
    cases hx : (x.1 == id) with
    | true =>
      rw [hx] at h
      simp only [cond_true, Option.some.injEq] at h
      subst h
      have : x.1 = id := by simpa using hx
      subst this
      simp
    | false =>
      rw [hx] at h
      simp only [cond_false] at h
      exact List.mem_cons_of_mem _ (findRound_mem h)
theorem found_round {E : Env} {f id : Nat} {ps : List Nat} {asg body : Code} (hok : ∀ f fn, E.fn f = some fn → roundsOk fn = true) (h : E.rnd f id = some (ps, asg, body)) : Found E f asg ∧ Found E f body := by
  have h0 := h
  simp only [Env.rnd] at h0
  split at h0
  · rename_i fn hfn
    split at h0
    · rename_i c hc
      have hm := findRound_mem h0
      have hF := found_body hfn hc (hok f fn hfn)
      obtain ⟨h1, h2⟩ := rounds_sub c _ hm
      exact ⟨fun y hy => hF y (h1 y hy), fun y hy => hF y (h2 y hy)⟩
    · simp at h0
  · simp at h0
section
variable {P : Program} {X : List Nat} {B0 : Nat} {w0 : World} {E : Env}
theorem leaves_ok {fn : Func} {tmps : Array Value} {Q : Ending → World → Prop} {μ : List Loc} {H : List AObj} {n0 : Nat} (hn : B0 ≤ n0) : ∀ (bs : List Nat) (w : World), HOk E.ty P.cellsOf E.rnd X B0 w0 μ H w → bs.Nodup → (∀ b ∈ bs, n0 ≤ b ∧ w.heap[b]? = some (.deferred (some []))) →
    (∀ w', HOk E.ty P.cellsOf E.rnd X B0 w0 μ H w' → (M_ X μ H w).le (M_ X μ H w') → Below B0 w w' → (∀ b, b < n0 → w'.heap[b]? = w.heap[b]?) → ∃ v, (results fn tmps).run P w' = .ok v w' ∧ Q (.returned v) w') →
    LeavesInM Fence.wide 0 P fn tmps Q (bs.map fun b => ({ target := .collected b, args := #[] } : Deferred)) .returning w
  | [], w, h, _, _, hk => by
    simp only [List.map_nil, LeavesInM, LeavesIn]
    exact hk w h (Mem.le_refl _) (Below.refl _ _) (fun _ _ => rfl)
  | b :: bs, w, h, hnd, hd, hk => by
    simp only [List.map_cons, LeavesInM]
    obtain ⟨hb0, hb⟩ := hd b (by simp)
    have hnu : ∀ i, ¬ Uses μ H i b := by
      rintro i ⟨l, o, a1, a2, a3⟩
      exact ObjOk.notDef (h.obj i l o a1 a2) a3 hb
    obtain ⟨g1, g2, g3, g4⟩ := h.other (y := .deferred none) (by omega) hb rfl rfl hnu
    have hnd' := List.nodup_cons.1 hnd
    refine ⟨by simp, .inl ⟨b, _, rfl, run_takeDeferred hb, ?_⟩⟩
    refine leaves_ok hn bs _ g1 hnd'.2 (fun c hc => ?_) (fun w' k1 k2 k3 k4 => ?_)
    · obtain ⟨c1, c2⟩ := hd c (by simp [hc])
      refine ⟨c1, ?_⟩
      rw [g4 c (fun h => hnd'.1 (h ▸ hc))]
      exact c2
    · exact hk w' k1 (Mem.le_trans g2 k2) (g3.trans k3) (fun c hc => by rw [k4 c hc, g4 c (by omega)])
end
end Go.AM
namespace Go.AM
open Go Go.RowKit
section
variable {P : Program} {X : List Nat} {B0 : Nat} {w0 : World}
variable {R : Type} {E : Env} {I : World → Prop} {gl : Nat}
def QA (Q : Exit → Act → World → Prop) : AExit → Act → World → Prop
  | .normal => Q .normal
  | .ret => Q .ret
  | .exit id => Q (.exit id)
theorem boxP_cases (r : Nat) : boxP r = [] ∨ ∃ c, boxP r = [c] := by
  simp only [boxP, boxQ, Bool.cond_eq_ite]
  repeat' split
  all_goals first | exact .inl rfl | exact .inr ⟨_, rfl⟩
theorem rowify_ok (SZ : SzOk E.ty P.cellsOf) {w : World} {base : Nat} {tmps : Array Value} : ∀ (l : List (Nat × Nat)) {μ : List Loc} {H : List AObj} {regs regs' : List V} {H' : List AObj} {tg tg' : List (Nat × Nat)}, HOk E.ty P.cellsOf E.rnd X B0 w0 μ H w → Regs P E.ty (M_ X μ H w) μ regs tmps → base ≤ μ.length →
    rowify E.ty l regs H tg = some (regs', H', tg') → ∃ μ', HOk E.ty P.cellsOf E.rnd X B0 w0 μ' H' w ∧ Regs P E.ty (M_ X μ' H' w) μ' regs' tmps ∧ Fut X B0 base μ H w μ' H' w ∧ μ.length ≤ μ'.length
  | [], μ, H, regs, regs', H', tg, tg', h, hr, hb, he => by
    simp only [rowify, Option.some.injEq, Prod.mk.injEq] at he
    obtain ⟨rfl, rfl, rfl⟩ := he
    exact ⟨μ, h, hr, ⟨fun _ _ => rfl, hb, Mem.le_refl _, Below.refl _ _, fun _ h => h⟩, Nat.le_refl _⟩
  | (r, e) :: l, μ, H, regs, regs', H', tg, tg', h, hr, hb, he => by
    simp only [rowify] at he
    cases hbx : decide (r < BOXES) with
    | true =>
      rw [hbx] at he
      simp only [cond_true] at he
      split at he
      · rename_i κ hreg
        split at he
        · rename_i hc
          obtain ⟨rfl, hok⟩ := hc
          have hne : E.ty e ≠ .bad := by intro hb; rw [hb] at hok; simp [K.ok] at hok
          have hrr := hr.get r
          rw [hreg] at hrr
          replace hrr := hrr.resolve_left (by simp)
          obtain ⟨κ0, hrr⟩ := hrr
          simp only [RV] at hrr
          obtain ⟨rfl, hrr⟩ := hrr
          simp only [Rep] at hrr
          obtain ⟨e1, ad, cap, h1, hx, _, hnn, hnil, _⟩ := hrr
          have had : ad = none := by cases ad with | none => rfl | some _ => simp at hnn
          subst had
          have hcap0 := hnil rfl
          subst hcap0
          obtain ⟨g1, g2, g3⟩ := newVirt h (Below.refl _ _) hne none
          have hlt : r < tmps.size := by
            rcases Nat.lt_or_ge r tmps.size with h | h
            · exact h
            · rw [Array.getD_eq_getD_getElem?, Array.getElem?_eq_none h] at hx
              simp [Go.undef] at hx
          have hr2 : Regs P E.ty (M_ X (μ ++ [⟨0, 0, 0, .array 0 e, true, false⟩]) (H ++ [.row e true false []]) w) (μ ++ [⟨0, 0, 0, .array 0 e, true, false⟩]) (regs.set r (.sref H.length 0 0)) tmps := by
            refine ⟨by simp [hr.len], fun i => ?_⟩
            rw [getD_set]
            split
            · rename_i hi
              obtain ⟨rfl, _⟩ := hi
              have hx' : tmps.getD r Go.undef = .slice none 0 0 := hx
              rw [hx']; exact g3
            · exact RR.mono _ _ g2.mem (g2.keeps (Nat.le_refl _)) (hr.get i)
          obtain ⟨μ', k1, k2, k3, k4⟩ := rowify_ok SZ (base := base) l g1 hr2 (by simp; omega) he
          exact ⟨μ', k1, k2, Fut.trans (Nat.le_refl _) ⟨fun i hi => g2.loc i (by omega), by simp; omega, g2.mem, g2.below, g2.dfr⟩ k3, Nat.le_trans (by simp) k4⟩
        · simp at he
      · exact rowify_ok SZ l h hr hb he
      · simp at he
    | false =>
      rw [hbx] at he
      simp only [cond_false] at he
      split at he
      · rename_i κ0 v hH
        split at he
        · rename_i κ hget
          split at he
          · rename_i hc
            obtain ⟨rfl, hok, hpb⟩ := hc
            split at he
            · rename_i v' hput
              have hne : E.ty e ≠ .bad := by intro hb; rw [hb] at hok; simp [K.ok] at hok
              have hpo : pathOk E.ty κ0 (boxP r) := by
                have := boxP_cases r
                rcases this with h | ⟨c, h⟩
                · rw [h]; trivial
                · rw [h] at hpb ⊢
                  simp only [List.all_cons, List.all_nil, Bool.and_true, Nat.blt_eq] at hpb
                  exact ⟨hpb, trivial⟩
              obtain ⟨g1, g2, g3⟩ := newVirt h (Below.refl _ _) hne none
              simp only [Option.isSome_none] at g1 g2 g3
              obtain ⟨l0, hl0⟩ := h.loc hH
              have hi0 := (List.getElem?_eq_some_iff.1 hH).1
              have hH' : (H ++ [.row e true false []])[boxN r]? = some (.var κ0 v) := by rw [List.getElem?_append_left hi0]; exact hH
              have hl0' : (μ ++ [⟨0, 0, 0, .array 0 e, true, false⟩])[boxN r]? = some l0 := prefix_get _ _ hl0
              have hobj := g1.obj _ l0 _ hl0' hH'
              simp only [ObjOk] at hobj
              obtain ⟨b1, b2, b3, b4, cs, et, x, b5, b6, b7, b8⟩ := hobj
              obtain ⟨c1, y, c2, q1, q2, q3, q4⟩ := RV.get SZ b6 b4 hpo hget
              simp only [RV] at q4
              obtain ⟨q5, q4⟩ := q4
              rw [← q5] at q4
              simp only [Rep] at q4
              obtain ⟨e1, ad, cap, h1, hx, _, hnn, hnil, _⟩ := q4
              have had : ad = none := by cases ad with | none => rfl | some _ => simp at hnn
              subst had
              have hcap0 := hnil rfl
              subst hcap0
              have hx' : y = .slice none 0 0 := hx
              have hz : RV E.ty P.cellsOf (M_ X (μ ++ [⟨0, 0, 0, .array 0 e, true, false⟩]) (H ++ [.row e true false []]) w) (μ ++ [⟨0, 0, 0, .array 0 e, true, false⟩]) (.sref H.length 0 0) (.slice e) (.slice none 0 0) := by
                have := g3.resolve_left (by simp)
                obtain ⟨κ1, g3'⟩ := this
                simp only [RV] at g3' ⊢
                obtain ⟨l1, n1, e2, d1, d2, d3, d4⟩ := g3'
                refine ⟨l1, n1, e2, d1, d2, ?_, d4⟩
                rw [← h.len] at d1
                simp only [List.getElem?_concat_length, Option.some.injEq] at d1
                subst d1
                simp only [K.array.injEq] at d2
                rw [d2.2]
              obtain ⟨k1, y0, k2, x', r1, r2, r3, r4, r5⟩ := RV.put SZ b6 b4 hpo q3 (by rw [← q5]; exact hz) hput
              have hsame : x'.cells = cs := by
                have e1 : c1 ++ y.cells.toList ++ c2 = k1 ++ y0 ++ k2 := by rw [← q1, ← r1]
                rw [List.append_assoc, List.append_assoc] at e1
                obtain ⟨e2, e3⟩ := List.append_inj e1 (by rw [q2, r3])
                obtain ⟨e4, e5⟩ := List.append_inj e3 (by rw [hx', r2])
                rw [← b7]
                apply Array.toList_inj.1
                rw [r5, r1, ← e4, hx']
              obtain ⟨m1, m2⟩ := g1.reobj (o' := .var κ0 v') hl0' hH' rfl rfl (by
                simp only [ObjOk]
                exact ⟨b1, b2, b3, b4, cs, et, x', b5, r4, hsame, b8⟩)
              have hset : (H ++ [AObj.row e true false []]).set (boxN r) (.var κ0 v') = H.set (boxN r) (.var κ0 v') ++ [.row e true false []] := by
                rw [List.set_append_left _ _ hi0]
              rw [hset] at m1 m2
              have hr1 := hr.mono g2.mem (μ' := μ ++ [⟨0, 0, 0, .array 0 e, true, false⟩]) prefix_get
              have hr2 := hr1.mono m2.mem (fun _ _ h => h)
              obtain ⟨μ', k1, k2, k3, k4⟩ := rowify_ok SZ (base := base) l m1 hr2 (by simp; omega) he
              have g2' : Fut X B0 base μ H w (μ ++ [⟨0, 0, 0, .array 0 e, true, false⟩]) (H ++ [.row e true false []]) w := ⟨fun i hi => g2.loc i (by omega), by simp; omega, g2.mem, g2.below, g2.dfr⟩
              exact ⟨μ', k1, k2, Fut.trans (Nat.le_refl _) (Fut.trans (by simp; omega) g2' m2) k3, Nat.le_trans (by simp) k4⟩
            · simp at he
          · simp at he
        · exact rowify_ok SZ l h hr hb he
        · simp at he
      · simp at he
theorem loopN_ok {ro : Option Nat} {n0 : Nat} {c : Code} {Q : Exit → Act → World → Prop} {r : R} {base : Nat} {μs : List Loc} {Hs : List AObj} {ws : World} {head : List V → List AObj → Option (List V × List AObj)}
    {body : List V → List AObj → (AExit → List V → List AObj → Option R) → Option R} {k : AExit → List V → List AObj → Option R}
    (hhead : ∀ (regs : List V) (H : List AObj) (μ : List Loc) (a : Act) (w : World) (regs' : List V) (H' : List AObj), head regs H = some (regs', H') → HOk E.ty P.cellsOf E.rnd X B0 w0 μ H w → Regs P E.ty (M_ X μ H w) μ regs a.tmps → base ≤ μ.length →
      ∃ μ', HOk E.ty P.cellsOf E.rnd X B0 w0 μ' H' w ∧ Regs P E.ty (M_ X μ' H' w) μ' regs' a.tmps ∧ Fut X B0 base μ H w μ' H' w)
    (hbody : ∀ (regs : List V) (H : List AObj) (k' : AExit → List V → List AObj → Option R) (μ : List Loc) (a : Act) (w : World) (Q' : Exit → Act → World → Prop), body regs H k' = some r → HOk E.ty P.cellsOf E.rnd X B0 w0 μ H w → Regs P E.ty (M_ X μ H w) μ regs a.tmps → Defs n0 a w → base ≤ μ.length →
      (∀ e regs' H' μ' a' w', k' e regs' H' = some r → HOk E.ty P.cellsOf E.rnd X B0 w0 μ' H' w' → Regs P E.ty (M_ X μ' H' w') μ' regs' a'.tmps → Defs n0 a' w' → Fut X B0 base μ H w μ' H' w' → QA Q' e a' w') → c.wpIn (Fr ro) 0 P Q' a w)
    (hk : ∀ e regs' H' μ' a' w', k e regs' H' = some r → HOk E.ty P.cellsOf E.rnd X B0 w0 μ' H' w' → Regs P E.ty (M_ X μ' H' w') μ' regs' a'.tmps → Defs n0 a' w' → Fut X B0 base μs Hs ws μ' H' w' → QA Q e a' w') :
    ∀ (n : Nat) (regs : List V) (H : List AObj) (μ : List Loc) (a : Act) (w : World), loopN head body n regs H k = some r → HOk E.ty P.cellsOf E.rnd X B0 w0 μ H w → Regs P E.ty (M_ X μ H w) μ regs a.tmps → Defs n0 a w → base ≤ μ.length → Fut X B0 base μs Hs ws μ H w → Code.roundsIn (Fr ro) 0 P c Q n a w
  | 0, regs, H, μ, a, w, he, _, _, _, _, _ => by simp [loopN] at he
  | n + 1, regs, H, μ, a, w, he, h, hr, hd, hb, F => by
    simp only [loopN] at he
    split at he
    · rename_i regs1 H1 hh
      obtain ⟨μ1, g1, g2, g3⟩ := hhead regs H μ a w regs1 H1 hh h hr hb
      rw [roundsIn_succ]
      refine hbody regs1 H1 _ μ1 a w _ he g1 g2 (hd.next g3 rfl) g3.len (fun e regs' H' μ' a' w' hk' h' hr' hd' F' => ?_)
      have F2 := Fut.trans (Nat.le_refl _) (Fut.trans (Nat.le_refl _) F g3) F'
      cases e with
      | normal => exact loopN_ok hhead hbody hk n regs' H' μ' a' w' hk' h' hr' hd' F'.len F2
      | ret => exact hk .ret regs' H' μ' a' w' hk' h' hr' hd' F2
      | exit id => exact hk (.exit id) regs' H' μ' a' w' hk' h' hr' hd' F2
    · simp at he
variable (EO : EnvOk P E I gl) (hI : I w0) (hgl : gl ≤ B0)
include EO hI hgl
theorem ev_ok {inl : Tgt → List V → List AObj → (V → List AObj → Option R) → Option R} (IN : InlOk P E X B0 w0 inl) {rd : Bool} {ro : Option Nat} (hrd : rd = false → ro = none) {n0 f base : Nat} {r : R} :
    ∀ (c : Code) (_ : Found E f c) (regs : List V) (H : List AObj) (k : AExit → List V → List AObj → Option R) (μ : List Loc) (a : Act) (w : World) (Q : Exit → Act → World → Prop), ev rd E inl f base c regs H k = some r → HOk E.ty P.cellsOf E.rnd X B0 w0 μ H w → Regs P E.ty (M_ X μ H w) μ regs a.tmps → Defs n0 a w → base ≤ μ.length →
      (∀ e regs' H' μ' a' w', k e regs' H' = some r → HOk E.ty P.cellsOf E.rnd X B0 w0 μ' H' w' → Regs P E.ty (M_ X μ' H' w') μ' regs' a'.tmps → Defs n0 a' w' → Fut X B0 base μ H w μ' H' w' → QA Q e a' w') → c.wpIn (Fr ro) 0 P Q a w := by
  intro c
  induction c with
  | skip => intro hF regs H k μ a w Q he h hr hd hb hk; exact wpIn_skip (hk .normal regs H μ a w he h hr hd ⟨fun _ _ => rfl, hb, Mem.le_refl _, Below.refl _ _, fun _ h => h⟩)
  | label l => intro hF regs H k μ a w Q he h hr hd hb hk; exact wpIn_label (hk .normal regs H μ a w he h hr hd ⟨fun _ _ => rfl, hb, Mem.le_refl _, Below.refl _ _, fun _ h => h⟩)
  | ret => intro hF regs H k μ a w Q he h hr hd hb hk; exact wpIn_ret (hk .ret regs H μ a w he h hr hd ⟨fun _ _ => rfl, hb, Mem.le_refl _, Below.refl _ _, fun _ h => h⟩)
  | exit id => intro hF regs H k μ a w Q he h hr hd hb hk; exact wpIn_exit (hk (.exit id) regs H μ a w he h hr hd ⟨fun _ _ => rfl, hb, Mem.le_refl _, Below.refl _ _, fun _ h => h⟩)
  | seq x y ihx ihy =>
    intro hF regs H k μ a w Q he h hr hd hb hk
    refine wpIn_seq (ihx (fun x hx => hF x (List.mem_append_left _ hx)) regs H _ μ a w _ he h hr hd hb (fun e regs' H' μ' a' w' hk' h' hr' hd' F' => ?_))
    cases e with
    | normal => exact ihy (fun x hx => hF x (List.mem_append_right _ hx)) regs' H' k μ' a' w' Q hk' h' hr' hd' F'.len (fun e r2 H2 μ2 a2 w2 k2 h2 hr2 hd2 F2 => hk e r2 H2 μ2 a2 w2 k2 h2 hr2 hd2 (Fut.trans (Nat.le_refl _) F' F2))
    | ret => exact hk .ret regs' H' μ' a' w' hk' h' hr' hd' F'
    | exit id => exact hk (.exit id) regs' H' μ' a' w' hk' h' hr' hd' F'
  | cond c x y ihx ihy =>
    intro hF regs H k μ a w Q he h hr hd hb hk
    simp only [ev] at he
    split at he
    · rename_i d hc
      have hv := val_ok hr .bool c
      rw [hc] at hv
      replace hv := hv.resolve_left (by simp)
      obtain ⟨κ, hv⟩ := hv
      simp only [RV] at hv
      obtain ⟨rfl, hv⟩ := hv
      have hx := rep_bool hv
      split at he
      · rename_i hb'
        exact wpIn_cond_true (by rw [hx, hb']) (ihx (fun x hx => hF x (List.mem_append_left _ hx)) regs H k μ a w Q he h hr hd hb hk)
      · rename_i hb'
        exact wpIn_cond_false (by rw [hx, hb']) (ihy (fun x hx => hF x (List.mem_append_right _ hx)) regs H k μ a w Q he h hr hd hb hk)
    · simp at he
  | block id c ih =>
    intro hF regs H k μ a w Q he h hr hd hb hk
    refine wpIn_block (ih hF regs H _ μ a w _ he h hr hd hb (fun e regs' H' μ' a' w' hk' h' hr' hd' F' => ?_))
    cases e with
    | normal => exact hk .normal regs' H' μ' a' w' hk' h' hr' hd' F'
    | ret => exact hk .ret regs' H' μ' a' w' hk' h' hr' hd' F'
    | exit id' =>
      simp only [QA, Exit.inBlock]
      cases hid : (id' == id) with
      | true =>
        simp only [hid, cond_true] at hk'
        rw [if_pos (by simpa using hid)]
        exact hk .normal regs' H' μ' a' w' hk' h' hr' hd' F'
      | false =>
        simp only [hid, cond_false] at hk'
        rw [if_neg (by simpa using hid)]
        exact hk (.exit id') regs' H' μ' a' w' hk' h' hr' hd' F'
  | loop c ih =>
    intro hF regs H k μ a w Q he h hr hd hb hk
    simp only [ev] at he
    split at he
    · rename_i regs1 H1 tg hrow
      obtain ⟨μ1, g1, g2, g3, g4⟩ := rowify_ok EO.ty.szOk (base := base) _ h hr hb hrow
      refine wpIn_loop_rounds E.fuel (loopN_ok (ro := ro) (n0 := n0) (P := P) (X := X) (B0 := B0) (w0 := w0) (E := E) (base := base) (μs := μ) (Hs := H) (ws := w) ?_ ?_ hk E.fuel regs1 H1 μ1 a w he g1 g2 (hd.next g3 rfl) (by omega) g3)
      · intro regs2 H2 μ2 a2 w2 regs3 H3 hh h2 hr2 hb2
        exact headSt_ok h2 hr2 hb2 (by rw [← g1.len]; omega) hh
      · intro regs2 H2 k' μ2 a2 w2 Q' hb2 h2 hr2 hd2 hbl2 hk2
        refine ih hF regs2 H2 _ μ2 a2 w2 Q' hb2 h2 hr2 hd2 hbl2 (fun e regs' H' μ' a' w' he' h' hr' hd' F' => ?_)
        have hko : ∀ out, Regs P E.ty (M_ X μ' H' w') μ' (keepO out regs') a'.tmps := fun out => by
          cases out with
          | none => exact hr'
          | some l => exact keep_ok l hr'
        cases e with
        | normal => exact hk2 .normal regs' H' μ' a' w' he' h' hr' hd' F'
        | ret => exact hk2 .ret _ H' μ' a' w' he' h' (hko _) hd' F'
        | exit id => exact hk2 (.exit id) _ H' μ' a' w' he' h' (hko _) hd' F'
    · simp at he
  | region id ops draw =>
    intro hF regs H k μ a w Q he h hr hd hb hk
    cases draw with
    | true =>
      simp only [ev, Bool.cond_eq_ite] at he
      split at he
      · rename_i hD
        exact draw_ok EO hI hgl IN hD he h hr hd hb (hk .normal)
      · simp at he
    | false =>
      simp only [ev] at he
      refine wpIn_region ?_
      have := evOps_ok EO hI hgl IN (ro := ro) (n0 := n0) (ops := ops) (Q := Q) (base := base) (μs := μ) (Hs := H) (ws := w) (hk .normal) ops.toList [] regs H μ a w (by simp) he h hr hd ⟨fun _ _ => rfl, hb, Mem.le_refl _, Below.refl _ _, fun _ h => h⟩
      simpa [List.range_eq_range'] using this
  | rangeFunc g ps asg body _ _ =>
    intro hF regs H k μ a w Q he h hr hd hb hk
    simp only [ev] at he
    cases hrd' : rd with
    | true => rw [hrd'] at he; simp at he
    | false =>
      rw [hrd'] at he
      simp only [cond_false] at he
      have hro := hrd hrd'
      subst hro
      split at he
      · rename_i gf cs hvf
        by_cases hgf : hasBody E gf = true
        case neg => rw [if_neg hgf] at he; simp at he
        rw [if_pos hgf] at he
        obtain ⟨xs, ys, hx, hxs, hys⟩ := vFunc_ok (val_ok hr .func g) hvf
        have hxs0 : xs = #[] := by simp only [RVt] at hxs; exact Array.toList_inj.1 hxs
        subst hxs0
        refine wpIn_rangeFunc ?_
        intro fn _
        obtain ⟨rec, hrec⟩ : ∃ rec : Loop, rec = { state := .ready, pending := none, fn, tmps := a.tmps, params := ps, assign := asg, body, defers := w.heap.size } := ⟨_, rfl⟩
        obtain ⟨W1, hW1⟩ : ∃ W1, (w.alloc (.deferred (some []))).alloc (.loop rec) = W1 := ⟨_, rfl⟩
        have hL1 : W1.heap[w.heap.size + 1]? = some (.loop rec) := by
          rw [← hW1]; have := World.alloc_heap_new (w.alloc (.deferred (some []))) (.loop rec); rwa [World.size_alloc] at this
        have hK1 : W1.heap[w.heap.size]? = some (.deferred (some [])) := by
          rw [← hW1]; exact (Below.heap_alloc _ _ _ (by simp)).trans (World.alloc_heap_new w _)
        have hs1 : W1.heap.size = w.heap.size + 2 := by rw [← hW1]; simp
        have hbel : Below w.heap.size w W1 := by
          rw [← hW1]
          exact ((Below.refl _ w).alloc (Nat.le_refl _) _).alloc (by simp) _
        obtain ⟨lc, hlc⟩ : ∃ lc : Loc, lc = ⟨w.heap.size + 1, 0, 0, .bad, false, false⟩ := ⟨_, rfl⟩
        have hlcb : lc.blk = w.heap.size + 1 := by rw [hlc]
        obtain ⟨g1, g2⟩ := HOk.newAt h (l := lc) (o := .loop .ready f (firstRegion body) (.tup (keep (E.hint f (firstRegion body)).live 0 regs))) hbel
          (fun b hb => by simp only [usesB, hlc, Option.some.injEq] at hb; omega) (fun M' hM => by
            simp only [ObjOk]
            refine ⟨rec, by rw [hlcb]; exact hL1, by rw [hrec]; exact ⟨rfl, rfl⟩, by rw [hrec]; exact hF (firstRegion body, ps.toList, asg, body) (List.mem_cons_self ..), ?_⟩
            rw [hrec]
            simp only [RV]
            exact ⟨trivial, _, rfl, RVt.mono _ _ hM prefix_get _ _ (regs_rvt (keep_ok _ hr))⟩)
        have hmem := g2.mem
        have hyield : RVt E.ty P.cellsOf (M_ X (μ ++ [lc]) (H ++ [.loop .ready f (firstRegion body) (.tup (keep (E.hint f (firstRegion body)).live 0 regs))]) W1) (μ ++ [lc]) (.yield H.length :: cs) (.func (.yield (w.heap.size + 1)) #[] #[] :: ys.toList) := by
          simp only [RVt]
          refine ⟨_, _, rfl, .inr ⟨.func, ?_⟩, RVt.mono _ _ hmem prefix_get _ _ hys⟩
          simp only [RV]
          refine ⟨trivial, lc, ?_, by rw [hlc], by rw [hlcb]⟩
          rw [← h.len]; simp
        have hcall := IN (.fn gf) _ _ _ r _ W1 _ (fun x w₃ => rangePost Fence.wide 0 P (w.heap.size + 1) Q { a with defers := { target := .collected w.heap.size, args := #[] } :: a.defers } (.returned x) w₃) he g1 hyield ?_
        · refine ⟨w.heap.size + 1, [{ target := .collected w.heap.size, args := #[] }], W1, { target := .fn (.func gf) ys, args := #[.func (.yield (w.heap.size + 1)) #[] #[]] }, W1, gf,
            #[.func (.yield (w.heap.size + 1)) #[] #[]] ++ ys, W1, ?_, ?_, fun _ _ => trivial, ?_, fun h => by simp [Fence.wide] at h, ?_⟩
          · rw [← hW1, hrec]; exact run_enterLoop_outer _ _ _ _ _
          · simp only [resolve, Deferred.ofValue, hx]
            simp [run_bind, run_pure, go_sem]
          · unfold hasBody at hgf
            split at hgf
            · rename_i fn' hfn'
              obtain ⟨h1, h2⟩ := EO.fn gf fn' hfn'
              have hb' : fn'.body.isNone = false := by cases h : fn'.body <;> simp_all
              simp only [run_bind, run_pure, invoke, callFunc, program, Sem.run, h1, h2, hb', Bool.false_eq_true, if_false]
            · simp at hgf
          · simp only at hcall
            have : (Value.func (.yield (w.heap.size + 1)) #[] #[] :: ys.toList).toArray = #[.func (.yield (w.heap.size + 1)) #[] #[]] ++ ys := by apply Array.toList_inj.1; simp
            rw [this] at hcall
            refine callsIn_Fr (hcall.mono ?_)
            rintro e w' ⟨x, rfl, hx⟩
            exact hx
        · intro v H' μ' w' x hk' hv h' F'
          have hbl : H.length < (μ ++ [lc]).length := by simp [h.len]
          have hμb : μ'[H.length]? = some lc := by
            rw [F'.loc _ hbl, ← h.len]; simp
          split at hk'
          · rename_i st f' id' u' hHb
            have hobj := h'.obj _ lc _ hμb hHb
            simp only [ObjOk] at hobj
            obtain ⟨q, q1, q2, _⟩ := hobj
            rw [hlcb] at q1
            obtain ⟨k1, k2⟩ := h'.forget hμb hHb
            have hnu : ∀ i, ¬ Uses μ' (H'.set H.length .dead) i (w.heap.size + 1) := by
              intro i hi
              have hi' := uses_set_sub hμb hHb (fun b hb => by simp [usesB] at hb) i _ hi
              have := h'.inj H.length i (w.heap.size + 1) ⟨lc, _, hμb, hHb, by simp [ownB, hlcb]⟩ hi'
              subst this
              obtain ⟨l2, o2, a1, a2, a3⟩ := hi
              rw [List.getElem?_set_self (h'.lt hμb)] at a2
              simp only [Option.some.injEq] at a2
              subst a2
              simp [usesB] at a3
            have hB : B0 ≤ w.heap.size + 1 := by have := h.size; omega
            obtain ⟨m1, m2, m3, m4⟩ := k1.other (y := .loop { q with state := .exhausted }) hB q1 rfl rfl hnu
            have Fall : Fut X B0 base μ H w μ' (H'.set H.length .dead) (w'.putObj (w.heap.size + 1) (.loop { q with state := .exhausted })) := by
              have hml : μ.length ≤ μ'.length := by have := F'.len; simp at this; omega
              have F1 := Fut.trans hml (Fut.trans (by simp) g2 F') k2
              refine ⟨fun i hi => F1.loc i (by omega), by have := F1.len; have := k2.len; have := F'.len; simp at this; omega, Mem.le_trans F1.mem m2, F1.below.trans m3, fun b hb' => ?_⟩
              rw [m4 b (fun hbe => by subst hbe; have := lt_of_block hb'; omega)]
              exact F1.dfr b hb'
            have hD' : (w'.putObj (w.heap.size + 1) (.loop { q with state := .exhausted })).heap[w.heap.size]? = some (.deferred (some [])) := by
              rw [m4 _ (by omega)]
              exact F'.dfr _ hK1
            have hdefs : Defs n0 { a with defers := { target := .collected w.heap.size, args := #[] } :: a.defers } (w'.putObj (w.heap.size + 1) (.loop { q with state := .exhausted })) := by
              obtain ⟨d0, bs, d1, d2, d3⟩ := hd
              refine ⟨Nat.le_trans d0 Fall.below.size, w.heap.size :: bs, by simp [d1], List.nodup_cons.2 ⟨fun hm => ?_, d2⟩, fun b hb' => ?_⟩
              · have := lt_of_block (d3 _ hm).2; omega
              · rcases List.mem_cons.1 hb' with rfl | hb'
                · exact ⟨d0, hD'⟩
                · exact ⟨(d3 b hb').1, Fall.dfr b (d3 b hb').2⟩
            have hregs := hr.mono Fall.mem (fun i l hl => by rw [F'.loc i (by have := (List.getElem?_eq_some_iff.1 hl).1; simp; omega)]; exact prefix_get i l hl)
            simp only [rangePost]
            cases st with
            | ready =>
              obtain ⟨q2, q3⟩ := q2
              refine ⟨none, _, ?_, hk .normal _ _ μ' _ _ hk' m1 hregs hdefs Fall⟩
              rw [← q3]; exact run_endLoop q1 (by rw [q2]; simp)
            | busy => simp at hk'
            | ret =>
              obtain ⟨q2, q3⟩ := q2
              refine ⟨some .ret, _, ?_, wpIn_ret (hk .ret _ _ μ' _ _ hk' m1 hregs hdefs Fall)⟩
              rw [← q3]; exact run_endLoop q1 (by rw [q2]; simp)
            | exit id =>
              obtain ⟨q2, q3⟩ := q2
              refine ⟨some (.exit id), _, ?_, wpIn_exit (hk (.exit id) _ _ μ' _ _ hk' m1 hregs hdefs Fall)⟩
              rw [← q3]; exact run_endLoop q1 (by rw [q2]; simp)
          · simp at hk'
      · simp at he
  | scope c _ => intro hF regs H k μ a w Q he; simp [ev] at he
  | goto l => intro hF regs H k μ a w Q he; simp [ev] at he
  | refuse s => intro hF regs H k μ a w Q he; simp [ev] at he
end
end Go.AM
namespace Go.AM
open Go Go.RowKit
section
variable {P : Program} {X : List Nat} {B0 : Nat} {w0 : World}
variable {R : Type} {E : Env} {I : World → Prop} {gl : Nat}
theorem resVals_ok (T : TyOk P E.ty) {μ : List Loc} {H : List AObj} {w : World} {regs : List V} {tmps : Array Value} (h : HOk E.ty P.cellsOf E.rnd X B0 w0 μ H w) (hr : Regs P E.ty (M_ X μ H w) μ regs tmps) :
    ∀ (l : List ResultVar) (vs : List V), resVals E regs H l = some vs → ∃ xs : List Value, (l.mapM (m := Sem) fun | .tmp t => pure (tmps.getD t Go.undef) | .cell a t => do loadVar t (← asAddr (tmps.getD a Go.undef))).run P w = .ok xs w ∧ RVt E.ty P.cellsOf (M_ X μ H w) μ vs xs
  | [], vs, he => by
    simp only [resVals, Option.some.injEq] at he; subst he
    exact ⟨[], by simp [run_pure], by simp [RVt]⟩
  | .tmp t :: l, vs, he => by
    simp only [resVals] at he
    split at he
    · rename_i vs' hvs
      simp only [Option.some.injEq] at he; subst he
      obtain ⟨xs, h1, h2⟩ := resVals_ok T h hr l vs' hvs
      refine ⟨tmps.getD t Go.undef :: xs, ?_, ?_⟩
      · rw [List.mapM_cons]
        simp only [run_bind, run_pure, h1]
      · simp only [RVt]; exact ⟨_, _, rfl, hr.get t, h2⟩
    · simp at he
  | .cell c t :: l, vs, he => by
    simp only [resVals] at he
    split at he
    · rename_i b p κ hreg
      split at he
      · rename_i hκ
        split at he
        · rename_i κ1 v hH
          split at he
          · rename_i v' hget
            split at he
            · rename_i vs' hvs
              simp only [Option.some.injEq] at he; subst he
              obtain ⟨xs, h1, h2⟩ := resVals_ok T h hr l vs' hvs
              have hv := hr.get c
              rw [hreg] at hv
              replace hv := hv.resolve_left (by simp)
              obtain ⟨κ0, hv⟩ := hv
              simp only [RV] at hv
              obtain ⟨_, lc, hμ, hvirt, hpo, hpk, hx⟩ := hv
              have hobj := h.obj b lc _ hμ hH
              simp only [ObjOk] at hobj
              obtain ⟨_, hb0, hk1, hkb, cs, et, x0, hblk, hrv, hcells, _⟩ := hobj
              rw [hk1] at hpo hpk hx
              obtain ⟨c1, y, c2, e1, e2, e3, e4⟩ := RV.get T.szOk hrv hkb hpo hget
              rw [hpk, hκ] at e3 e4
              refine ⟨y :: xs, ?_, ?_⟩
              · rw [List.mapM_cons]
                have hadr : asAddr (tmps.getD c Go.undef) = (pure ⟨lc.blk, lc.base + (pathOff E.ty P.cellsOf κ1 p).1, none⟩ : Sem Addr) := by rw [hx]; rfl
                have hload : (loadVar t ⟨lc.blk, lc.base + (pathOff E.ty P.cellsOf κ1 p).1, none⟩).run P w = .ok y w :=
                  run_load_ok T e4 e3 rfl (fun j v hj => by
                    have := block_cells hblk (c1 := c1) (by rw [← hcells]; exact e1) j v hj
                    simpa [hb0, e2] using this)
                simp only [hadr, run_bind, run_pure, hload, h1]
              · simp only [RVt]; exact ⟨_, _, rfl, .inr ⟨_, e4⟩, h2⟩
            · simp at he
          · simp at he
        · simp at he
      · simp at he
    · simp at he
theorem oneOf_ok {ty : Nat → K} {sz : Nat → Nat} {M : Mem} {μ : List Loc} {vs : List V} {xs : List Value} (h : RVt ty sz M μ vs xs) : RR ty sz M μ (oneOf vs) (if h : xs.toArray.size = 1 then xs.toArray[0] else .tuple xs.toArray) := by
  cases vs with
  | nil => simp only [RVt] at h; subst h; exact .inr ⟨.bad, by simp [oneOf, RV, RVt]⟩
  | cons v vs =>
    have hh := h
    simp only [RVt] at h
    obtain ⟨x, rest, rfl, h1, h2⟩ := h
    cases vs with
    | nil => simp only [RVt] at h2; subst h2; simpa [oneOf, RR] using h1
    | cons v' vs =>
      have h2' := h2
      simp only [RVt] at h2
      obtain ⟨x', rest', rfl, h3, h4⟩ := h2
      rw [dif_neg (by simp)]
      exact .inr ⟨.bad, by simp only [oneOf, RV]; exact ⟨trivial, _, rfl, hh⟩⟩
variable (EO : EnvOk P E I gl) (hI : I w0) (hgl : gl ≤ B0)
include EO hI hgl
theorem round_ok {n : Nat} (IN : InlOk (R := R) P E X B0 w0 (call E n)) {b : Nat} {args : List V} {H : List AObj} {k : V → List AObj → Option R} {r : R} {μ : List Loc} {w : World} {xs : List Value} {Post : Value → World → Prop} {l : Loc}
    (he : call E (n + 1) (.yield b) args H k = some r) (h : HOk E.ty P.cellsOf E.rnd X B0 w0 μ H w) (hargs : RVt E.ty P.cellsOf (M_ X μ H w) μ args xs) (hμ : μ[b]? = some l)
    (hk : ∀ v H' μ' w' x, k v H' = some r → RR E.ty P.cellsOf (M_ X μ' H' w') μ' v x → HOk E.ty P.cellsOf E.rnd X B0 w0 μ' H' w' → Fut X B0 μ.length μ H w μ' H' w' → Post x w') :
    YieldAt Fence.wide 0 P l.blk xs.toArray w fun e w' => ∃ x, e = .returned x ∧ Post x w' := by
  simp only [call] at he
  split at he
  · rename_i f id regs hHb
    split at he
    · rename_i ps asg body hrnd
      split at he
      case isFalse => simp at he
      rename_i hlen
      obtain ⟨hFa, hFb⟩ := found_round EO.rounds hrnd
      have hobj := h.obj b l _ hμ hHb
      simp only [ObjOk] at hobj
      obtain ⟨q, q1, ⟨q2, q2'⟩, q3, q6⟩ := hobj
      rw [hrnd] at q3
      simp only [Option.some.injEq, Prod.mk.injEq] at q3
      obtain ⟨q3, q4, q5⟩ := q3
      replace q3 := q3.symm
      replace q4 := q4.symm
      replace q5 := q5.symm
      simp only [RV] at q6
      obtain ⟨_, tm, q6, q7⟩ := q6
      simp only [Value.tuple.injEq] at q6
      subst q6
      have hal : args.length = xs.length := by
        clear he hk hlen
        induction args generalizing xs with
        | nil => simp only [RVt] at hargs; simp [hargs]
        | cons a as1 ih => simp only [RVt] at hargs; obtain ⟨x, rest, rfl, _, h2⟩ := hargs; simp [ih h2]
      have hsz : xs.toArray.size = q.params.size := by
        have : q.params.toList.length = ps.length := by rw [q3]
        simp at this ⊢
        omega
      have hregs := setPs_ok ps args xs regs q.tmps hlen.symm hargs (rvt_regs q7)
      have htm : (q.params.zip xs.toArray).foldl (fun tmps (t, a) => tmps.setIfInBounds t a) q.tmps = (ps.zip xs).foldl (fun t (p : Nat × Value) => t.setIfInBounds p.1 p.2) q.tmps := by
        rw [← Array.foldl_toList, Array.toList_zip, q3]
      refine ⟨q.fn, _, q.assign, q.body, run_yield q1 hsz, ?_⟩
      rw [htm, q4, q5]
      refine roundIn_of_wpIn trivial ?_
      have hn0 : Defs w.heap.size ({ tmps := (ps.zip xs).foldl (fun t (p : Nat × Value) => t.setIfInBounds p.1 p.2) q.tmps, defers := [] } : Act) w := Defs.nil rfl
      refine ev_ok EO hI hgl IN (rd := true) (ro := some l.blk) (by simp) (n0 := w.heap.size) asg hFa _ H _ μ _ w _ he h hregs hn0 (by rw [h.len]; exact Nat.le_refl _) (fun e regs1 H1 μ1 a1 w1 hk1 h1 hr1 hd1 F1 => ?_)
      rw [← h.len] at F1
      have hμ1 : μ1[b]? = some l := by rw [F1.loc b (List.getElem?_eq_some_iff.1 hμ).1]; exact hμ
      cases e with
      | normal =>
        simp only [Bool.cond_eq_ite] at hk1
        split at hk1
        · rename_i hl1
          have hH1 : ∃ f1 id1 u1, H1[b]? = some (.loop .ready f1 id1 u1) := by
            unfold isLoop at hl1
            split at hl1
            · rename_i e1; exact ⟨_, _, _, e1⟩
            · simp at hl1
            · simp at hl1
          obtain ⟨f1, id1, u1, hH1⟩ := hH1
          simp only [setLoop, hH1] at hk1
          have hobj1 := h1.obj b l _ hμ1 hH1
          simp only [ObjOk] at hobj1
          obtain ⟨r1, s1, ⟨s2, s2'⟩, _⟩ := hobj1
          obtain ⟨g1, g2⟩ := h1.record (st' := .busy) (r' := { r1 with state := .busy }) hμ1 hH1 s1 rfl rfl rfl rfl rfl
          refine ⟨_, run_beginRound s1 s2, ?_⟩
          refine ev_ok EO hI hgl IN (rd := true) (ro := some l.blk) (by simp) (n0 := w.heap.size) body hFb _ _ _ μ1 _ _ _ hk1 g1 (hr1.mono g2.mem (fun _ _ h => h)) (hd1.next g2 rfl) (by have := F1.len; rw [h.len] at this; exact this) (fun e regs3 H3 μ3 a3 w3 hk3 h3 hr3 hd3 F3 => ?_)
          rw [← h.len] at F3
          have hμ3 : μ3[b]? = some l := by rw [F3.loc b (List.getElem?_eq_some_iff.1 hμ).1]; exact hμ1
          split at hk3
          · rename_i hl3
            have hH3 : ∃ f1 id1 u1, H3[b]? = some (.loop .busy f1 id1 u1) := by
              unfold isLoop at hl3
              split at hl3
              · simp at hl3
              · rename_i e1; exact ⟨_, _, _, e1⟩
              · simp at hl3
            obtain ⟨f3, id3, u3, hH3⟩ := hH3
            have hobj3 := h3.obj b l _ hμ3 hH3
            simp only [ObjOk] at hobj3
            obtain ⟨r3, v1, v2, _⟩ := hobj3
            have hfin : ∀ (st : LSt) (jump : Option Code) (bo : Bool), (bo = jump.isNone) → st.of { r3 with state := if jump.isNone then .ready else .done, pending := jump } → (match setLoop st b H3 with | some H4 => k (.d .bool (.bool bo)) H4 | none => none) = some r →
                ∃ v w', (Instr.endRound l.blk jump).run P w3 = .ok v w' ∧ ∃ x, Ending.returned v = .returned x ∧ Post x w' := by
              intro st jump bo hbo hst hk4
              simp only [setLoop, hH3] at hk4
              obtain ⟨m1, m2⟩ := h3.record (st' := st) (r' := { r3 with state := if jump.isNone then .ready else .done, pending := jump }) hμ3 hH3 v1 rfl rfl rfl rfl hst
              refine ⟨_, _, run_endRound jump v1, _, rfl, ?_⟩
              subst hbo
              have hml1 : μ.length ≤ μ1.length := F1.len
              have hml3 : μ.length ≤ μ3.length := F3.len
              exact hk _ _ μ3 _ _ hk4 (.inr ⟨.bool, by simp [RV, Rep]⟩) m1 (Fut.trans hml3 (Fut.trans (Nat.le_refl _) (Fut.trans hml1 F1 g2) F3) m2)
            cases e with
            | normal => exact hfin .ready none true rfl ⟨rfl, rfl⟩ hk3
            | ret => exact hfin .ret (some .ret) false rfl ⟨rfl, rfl⟩ hk3
            | exit id => exact hfin (.exit id) (some (.exit id)) false rfl ⟨rfl, rfl⟩ hk3
          · simp at hk3
        · simp at hk1
      | ret => simp at hk1
      | exit id => simp at hk1
    · simp at he
  · simp at he
theorem call_ok : ∀ n : Nat, InlOk (R := R) P E X B0 w0 (call E n)
  | 0 => by intro g args H k r μ w xs Post he; simp [call] at he
  | n + 1 => by
    intro tg args H k r μ w xs Post he h hargs hk
    cases tg with
    | yield b =>
      intro l hμ
      exact round_ok EO hI hgl (call_ok n) he h hargs hμ hk
    | fn g =>
    simp only [call] at he
    split at he
    · rename_i x hx
      split at he
      · rename_i cc v H' hxe
        cases cc with
        | false => simp at he
        | true =>
        simp only [cond_true] at he
        refine (EO.ext g x hx E.rnd X B0 w0 μ H w args v H' xs (EO.keep w0 w (h.below.mono hgl) hI) hgl h hargs hxe).mono ?_
        rintro e w' ⟨y, μ', rfl, h1, h2, h3⟩
        exact ⟨y, rfl, hk v H' μ' w' y he h2 h1 h3⟩
      · simp at he
    split at he
    · rename_i fn hfn
      split at he
      · rename_i c hbody
        obtain ⟨hf, _⟩ := EO.fn g fn hfn
        refine callsIn_wide.1 (callsIn_of_wp_marks (F := Fence.wide) (n := 0) hf hbody trivial ?_)
        have hlen : args.length = xs.length := by
          clear he hk
          induction args generalizing xs with
          | nil => simp only [RVt] at hargs; simp [hargs]
          | cons a as1 ih => simp only [RVt] at hargs; obtain ⟨x, rest, rfl, _, h2⟩ := hargs; simp [ih rest h2]
        have hregs : Regs P E.ty (M_ X μ H w) μ (args ++ List.replicate (fn.ntmps - args.length) .undef) (xs.toArray ++ Array.replicate (fn.ntmps - xs.toArray.size) Go.undef) := by
          refine ⟨by simp [hlen], fun i => ?_⟩
          by_cases hi : i < args.length
          · obtain ⟨x, hx, hrr⟩ := RVt.at hargs (List.getElem?_eq_getElem hi)
            have e1 : (args ++ List.replicate (fn.ntmps - args.length) V.undef).getD i .undef = args[i] := by
              rw [List.getD_eq_getElem?_getD, List.getElem?_append_left hi, List.getElem?_eq_getElem hi]; rfl
            have e2 : (xs.toArray ++ Array.replicate (fn.ntmps - xs.toArray.size) Go.undef).getD i Go.undef = x := by
              rw [Array.getD_eq_getD_getElem?, Array.getElem?_append_left (by simp; omega)]
              simp [hx]
            rw [e1, e2]; exact hrr
          · left
            rw [List.getD_eq_getElem?_getD, List.getElem?_append_right (by omega), List.getElem?_replicate]
            split <;> rfl
        refine ev_ok EO hI hgl (call_ok n) (ro := none) (fun _ => rfl) (n0 := w.heap.size) c (found_body hfn hbody (EO.rounds g fn hfn)) _ H _ μ _ w _ he h hregs (Defs.nil rfl) (by rw [h.len]; exact Nat.le_refl _) (fun e regs' H' μ' a' w' hk' h' hr' hd' F' => ?_)
        have hfin : (match resVals E regs' H' fn.results.toList with | some vs => k (oneOf vs) H' | none => none) = some r →
            LeavesInM Fence.wide 0 P fn a'.tmps (fun e w' => ∃ x, e = .returned x ∧ Post x w') a'.defers .returning w' := by
          intro hk'
          split at hk'
          · rename_i vs hvs
            obtain ⟨d0, bs, d1, d2, d3⟩ := hd'
            rw [d1]
            refine leaves_ok h.size bs w' h' d2 d3 (fun w'' h'' hm'' hb'' hk'' => ?_)
            obtain ⟨xs', h1, h2⟩ := resVals_ok EO.ty h'' (hr'.mono hm'' (fun _ _ h => h)) _ vs hvs
            have hres : (results fn a'.tmps).run P w'' = .ok (if h : xs'.toArray.size = 1 then xs'.toArray[0] else .tuple xs'.toArray) w'' := by
              simp only [results]
              rw [Array.mapM_eq_mapM_toList]
              rw [map_eq_pure_bind]
              simp only [run_bind]
              erw [h1]
              rfl
            refine ⟨_, hres, _, rfl, ?_⟩
            refine hk _ H' μ' w'' _ hk' (oneOf_ok h2) h'' ?_
            rw [h.len]
            exact ⟨F'.loc, F'.len, Mem.le_trans F'.mem hm'', F'.below.trans hb'', fun b hb => by rw [hk'' b (lt_of_block hb)]; exact F'.dfr b hb⟩
          · simp at hk'
        cases e with
        | normal => exact hfin hk'
        | ret => exact hfin hk'
        | exit id => simp at hk'
      · simp at he
    · simp at he
end
end Go.AM
namespace Go.AM
open Go Go.RowKit
mutual
def D.noMem : D → Bool
  | .agg ds => D.noMems ds
  | .slice _ ds => ds.isEmpty
  | .iface _ x => D.noMem x
  | .tup ds => D.noMems ds
  | _ => true
def D.noMems : List D → Bool
  | [] => true
  | d :: ds => D.noMem d && D.noMems ds
end
section
variable {P : Program} {ty : Nat → K} {cd : Cd}
mutual
theorem noMem_rep {M M' : Mem} : ∀ (d : D) (κ : K) (v : Value), d.noMem = true → Rep ty M d κ v → Rep ty M' d κ v
  | .bool _, _, _, _, k => k
  | .int _ _, _, _, _, k => k
  | .str _, _, _, _, k => k
  | .agg ds, κ, v, h, k => by
    simp only [D.noMem] at h
    simp only [Rep] at k ⊢
    obtain ⟨a, cs, b, c⟩ := k
    exact ⟨a, cs, b, noMems_rep ds _ _ h c⟩
  | .slice nn ds, κ, v, h, k => by
    have h0 : ds = [] := by simpa [D.noMem] using h
    subst h0
    simp only [Rep] at k ⊢
    obtain ⟨e, a, cap, h1, h2, h3, h4, h5, _⟩ := k
    exact ⟨e, a, cap, h1, h2, h3, h4, h5, .inl trivial⟩
  | .iface t x, κ, v, h, k => by
    simp only [D.noMem] at h
    simp only [Rep] at k ⊢
    obtain ⟨a, b, y, e, c⟩ := k
    exact ⟨a, b, y, e, noMem_rep x _ _ h c⟩
  | .nilIface, _, _, _, k => k
  | .fn _, _, _, _, k => k
  | .nilFunc, _, _, _, k => k
  | .nilPtr, _, _, _, k => k
  | .nilMap, _, _, _, k => k
  | .tup _, _, _, _, k => k
theorem noMems_rep {M M' : Mem} : ∀ (ds : List D) (κs : List K) (cs : List Value), D.noMems ds = true → Reps ty M ds κs cs → Reps ty M' ds κs cs
  | [], _, _, _, k => k
  | d :: ds, κs, cs, h, k => by
    simp only [D.noMems, Bool.and_eq_true] at h
    simp only [Reps] at k ⊢
    obtain ⟨κ, κs', x, rest, a, b, c, e⟩ := k
    exact ⟨κ, κs', x, rest, a, b, noMem_rep d _ _ h.1 c, noMems_rep ds _ _ h.2 e⟩
end
theorem noMem_each {M M' : Mem} : ∀ (ds : List D) (κs : List K) (xs : List Value), D.noMems ds = true → Each ty M ds κs xs → Each ty M' ds κs xs
  | [], _, _, _, k => k
  | d :: ds, κs, cs, h, k => by
    simp only [D.noMems, Bool.and_eq_true] at h
    simp only [Each] at k ⊢
    obtain ⟨κ, κs', x, rest, a, b, c, e⟩ := k
    exact ⟨κ, κs', x, rest, a, b, noMem_rep d _ _ h.1 c, noMem_each ds _ _ h.2 e⟩
theorem noMem_res {M M' : Mem} {ts : List Nat} {r : D} {v : Value} (h : r.noMem = true) (k : ResRep ty M ts r v) : ResRep ty M' ts r v := by
  unfold ResRep at k ⊢
  split at k
  · exact noMem_rep _ _ _ h k
  · obtain ⟨ds, xs, rfl, rfl, hE⟩ := k
    exact ⟨ds, xs, rfl, rfl, noMem_each _ _ _ (by simpa only [D.noMem] using h) hE⟩
theorem finish_ok (T : TyOk P ty) {X : List Nat} {B0 : Nat} {w0 w : World} {μ : List Loc} {H : List AObj} (h : HOk ty P.cellsOf cd X B0 w0 μ H w) {u : V} {x : Value} {ts : List Nat} {r : D} (hr : RR ty P.cellsOf (M_ X μ H w) μ u x) (hf : finish ty ts u H = some r) :
    ResRep ty (memOf w X) ts r x := by
  have hPM : PM X false w μ H = memOf w X := by simp [PM]
  unfold finish at hf
  unfold ResRep
  split at hf
  · rename_i t
    cases hk : kindIs ty H u (ty t) with
    | false => rw [hk] at hf; simp at hf
    | true =>
      rw [hk] at hf
      simp only [cond_true] at hf
      have hx := kindIs_ok h hr hk
      have := pure_ok T h (st := false) PM_le _ _ _ _ hx (kindIs_good hk hx) hf
      rw [hPM] at this
      exact this
  · rename_i tsx hne
    split
    · exact absurd rfl (hne _)
    split at hf
    · rename_i vs
      cases hk : allKinds ty H vs ts with
      | false => rw [hk] at hf; simp at hf
      | true =>
        rw [hk] at hf
        simp only [cond_true] at hf
        split at hf
        · rename_i ds hds
          simp only [Option.some.injEq] at hf
          subst hf
          replace hr := hr.resolve_left (by simp)
          obtain ⟨κ, hr⟩ := hr
          simp only [RV] at hr
          obtain ⟨_, xs, hx, hr⟩ := hr
          have := pureEach_ok T h (st := false) PM_le _ _ _ _ hr hk hds
          rw [hPM] at this
          exact ⟨ds, xs, rfl, hx, this⟩
        · simp at hf
    · simp at hf
theorem RVt.of_each {M : Mem} {sz : Nat → Nat} {μ : List Loc} : ∀ {ds : List D} {κs : List K} {xs : List Value}, Each ty M ds κs xs → RVt ty sz M μ (List.zipWith V.d κs ds) xs
  | [], κs, xs, h => by simp only [Each] at h; obtain ⟨rfl, rfl⟩ := h; simp [RVt]
  | d :: ds, κs, xs, h => by
    simp only [Each] at h
    obtain ⟨κ, κs', x, rest, rfl, rfl, h1, h2⟩ := h
    simp only [List.zipWith_cons_cons, RVt]
    exact ⟨x, rest, rfl, .inr ⟨κ, by simp only [RV]; exact ⟨trivial, h1⟩⟩, RVt.of_each h2⟩
theorem start_ok {X : List Nat} {w : World} (hX : ∀ b ∈ X, b < w.heap.size) : HOk ty P.cellsOf cd X w.heap.size w [] [] w := by
  refine ⟨rfl, ?_, ?_, ?_, hX, Below.refl _ _, Nat.le_refl _⟩
  · intro i l o h; simp at h
  · rintro i j b ⟨l, o, h, _⟩; simp at h
  · rintro i b ⟨l, o, h, _⟩; simp at h
variable {E : Env} {I : World → Prop} {gl : Nat}
theorem contract_of_run (EO : EnvOk P E I gl) (hgl : ∀ w, I w → gl ≤ w.heap.size) {depth f : Nat} {fn : Func} {c : Con}
    (hfresh : c.fresh = false) (hrun : ∀ ds r, c.run ds = some r → run E depth f (fn.params.toList.map E.ty) fn.resultTypes.toList ds = some r)
    (hplain : c.plain = true → ∀ ds r, c.run ds = some r → r.noMem = true) : Contract P E.ty I f fn c := by
  intro X w ds xs r hIw hX hE hr
  have hcall := call_ok (R := D) (X := X) (B0 := w.heap.size) (w0 := w) EO hIw (hgl w hIw) depth (.fn f) (List.zipWith V.d (fn.params.toList.map E.ty) ds) [] _ r [] w xs
    (fun v w' => Below w.heap.size w w' ∧ ResRep E.ty (memOf w' X) fn.resultTypes.toList r v) (hrun ds r hr) (start_ok hX) (by
      have := RVt.of_each (sz := P.cellsOf) (μ := []) hE
      simpa [M_, owned] using this) (by
      intro v H' μ' w' x hf hv h' F'
      exact ⟨F'.below, finish_ok EO.ty h' hv hf⟩)
  refine hcall.mono ?_
  rintro e w' ⟨v, rfl, hb, hres⟩
  refine ⟨v, rfl, hb, ?_⟩
  by_cases hp : c.plain = true
  · rw [if_pos hp]
    exact fun M => noMem_res (hplain hp ds r hr) hres
  · rw [if_neg hp, if_neg (by simp [hfresh])]
    exact hres
theorem contract_of_runFresh (EO : EnvOk P E I gl) (hgl : ∀ w, I w → gl ≤ w.heap.size) {depth f : Nat} {fn : Func} {c : Con}
    (hplain : c.plain = false) (hfresh : c.fresh = true) (hrun : ∀ ds r, c.run ds = some r → runFresh E depth f (fn.params.toList.map E.ty) fn.resultTypes.toList ds = some r) : Contract P E.ty I f fn c := by
  intro X w ds xs r hIw hX hE hr
  have hcall := call_ok (R := D) (X := X) (B0 := w.heap.size) (w0 := w) EO hIw (hgl w hIw) depth (.fn f) (List.zipWith V.d (fn.params.toList.map E.ty) ds) [] _ r [] w xs
    (fun v w' => Below w.heap.size w w' ∧ FreshRep P E.ty X w w' fn.resultTypes.toList r v) (hrun ds r hr) (start_ok hX) (by
      have := RVt.of_each (sz := P.cellsOf) (μ := []) hE
      simpa [M_, owned] using this) (by
      intro v H' μ' w' x hf hv h' F'
      refine ⟨F'.below, ?_⟩
      unfold finishFresh at hf
      split at hf
      · rename_i t b off len hts
        split at hf
        · rename_i e nn ds' hH
          cases hc : (decide (E.ty t = .slice e) && decide (len = ds'.length) && decide (off = 0)) with
          | false => rw [hc] at hf; simp at hf
          | true =>
            rw [hc] at hf
            simp only [cond_true, Option.some.injEq] at hf
            subst hf
            simp only [Bool.and_eq_true, decide_eq_true_eq] at hc
            obtain ⟨⟨hk, rfl⟩, rfl⟩ := hc
            replace hv := hv.resolve_left (by simp)
            obtain ⟨κ, hv⟩ := hv
            simp only [RV] at hv
            obtain ⟨l, n, e0, hμ, hl, _, hlen, hx⟩ := hv
            obtain ⟨rfl, rfl⟩ := row_loc h' hH hμ hl
            have hobj := h'.obj b l _ hμ hH
            simp only [ObjOk] at hobj
            obtain ⟨_, hlnn, _, hobj⟩ := hobj
            refine .inr ⟨t, e0, nn, ds', hts, hk, rfl, ?_⟩
            rcases hx with ⟨hvirt, h0, a, rfl, ha⟩ | ⟨hvirt, cap, rfl, hc1, hc2, hreach⟩ | ⟨hvirt, h0, hreach, a, rfl⟩
            · exact .inl ⟨List.eq_nil_of_length_eq_zero h0, a, rfl, by rw [ha, hlnn]⟩
            · rw [if_neg (by simp [hvirt])] at hobj
              obtain ⟨hnn, hcap, cs, et, fz, pre, mid, post, h1, h2, h3, h4, h5, h6⟩ := hobj
              refine .inr ⟨hnn, l.blk, l.base, cap, cs, et, fz, pre, mid, post, ?_, by simp, h1, h2, h3, ?_, ⟨hc1, by omega⟩, ?_, h6⟩
              · exact h'.low b l.blk ⟨l, _, hμ, hH, by simp [usesB, hvirt]⟩
              · refine Reps.mono _ (memOf_leX (fun _ _ _ => rfl) (fun b' hb' => ?_)) _ _ _ h4
                left
                simp only [List.mem_singleton] at hb'
                subst hb'
                exact mem_owned.2 ⟨b, l, _, hμ, hH, by simp [ownB, hvirt]⟩
              · refine Nat.le_trans (Nat.mul_le_mul_right _ ?_) h5
                omega
            · rw [if_neg (by simp [hvirt])] at hobj
              exact .inl ⟨List.eq_nil_of_length_eq_zero h0, some a, rfl, by rw [hobj.1]; rfl⟩
        · simp at hf
      · rename_i t e hts
        cases hc : decide (E.ty t = .slice e) with
        | false => rw [hc] at hf; simp at hf
        | true =>
          rw [hc] at hf
          simp only [cond_true, Option.some.injEq] at hf
          subst hf
          replace hv := hv.resolve_left (by simp)
          obtain ⟨κ, hv⟩ := hv
          simp only [RV] at hv
          obtain ⟨_, hv⟩ := hv
          simp only [Rep] at hv
          obtain ⟨e1, a, cap, h1, hx, _, hnn, hnil, _⟩ := hv
          have ha : a = none := by cases a with | none => rfl | some _ => simp at hnn
          subst ha
          have hcap := hnil rfl
          subst hcap
          exact .inr ⟨t, e, false, [], hts, of_decide_eq_true hc, rfl, .inl ⟨rfl, none, hx, rfl⟩⟩
      · rename_i t b hts
        split at hf
        · rename_i a' e' es hH
          cases hc : decide (E.ty t = .map a' e') with
          | false => rw [hc] at hf; simp at hf
          | true =>
            rw [hc] at hf
            simp only [cond_true, Option.some.injEq] at hf
            subst hf
            replace hv := hv.resolve_left (by simp)
            obtain ⟨κ, hv⟩ := hv
            simp only [RV] at hv
            obtain ⟨l, a2, e2, hμ, _, _, hx⟩ := hv
            have hobj := h'.obj b l _ hμ hH
            simp only [ObjOk] at hobj
            obtain ⟨_, _, _, ms, hblk, hent⟩ := hobj
            refine .inl ⟨t, a', e', es, l.blk, ms, hts, of_decide_eq_true hc, rfl, hx, ?_, hblk, ?_⟩
            · exact h'.low b l.blk ⟨l, _, hμ, hH, rfl⟩
            · exact hent.mono (memOf_leX (own := owned μ' H') (own' := [l.blk]) (fun _ _ _ => rfl) (fun b' hb' => by
                left
                simp only [List.mem_singleton] at hb'
                subst hb'
                exact mem_owned.2 ⟨b, l, _, hμ, hH, rfl⟩))
        · simp at hf
      · simp at hf)
  refine hcall.mono ?_
  rintro e w' ⟨v, rfl, hb, hres⟩
  refine ⟨v, rfl, hb, ?_⟩
  rw [if_neg (by simp [hplain]), if_pos hfresh]
  exact hres
end
end Go.AM
