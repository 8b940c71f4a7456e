/- Part 7 of the proof: the abstract machine, what the functions compute, and plain laws over that. -/
import Derived.Test.YtonknblidjpfeaaSt6
import Derived.Shelf.Strings.Builder1
import Derived.Shelf.Sort.Plain
import Derived.Shelf.Slices.In.SortNone
set_option linter.all false
set_option linter.unusedSimpArgs false
set_option linter.unusedVariables false
set_option linter.unusedSectionVars false
namespace Go.AM
open Go
abbrev Kont := AExit → List V → List AObj → Option D
abbrev Inl (R : Type) := Tgt → List V → List AObj → (V → List AObj → Option R) → Option R
abbrev Sum := List V → List AObj → List (Nat × Nat) → Kont → Option D
def evT (rd : Bool) (E : Env) (inl : Inl D) (f : Nat) (tbl : Nat → Option Sum) :
    Code → List V → List AObj → Kont → Option D
  | .skip, regs, H, k => k .normal regs H
  | .label _, regs, H, k => k .normal regs H
  | .ret, regs, H, k => k .ret regs H
  | .exit id, regs, H, k => k (.exit id) regs H
  | .seq a b, regs, H, k => evT rd E inl f tbl a regs H fun e r h => match e with
    | .normal => evT rd E inl f tbl b r h k
    | .ret => k .ret r h
    | .exit id => k (.exit id) r h
  | .cond c a b, regs, H, k => match val regs .bool c with
    | .d .bool x => match x.b with
      | true => evT rd E inl f tbl a regs H k
      | false => evT rd E inl f tbl b regs H k
    | _ => none
  | .block id c, regs, H, k => evT rd E inl f tbl c regs H fun e r h => match e with
    | .normal => k .normal r h
    | .ret => k .ret r h
    | .exit id' => bif id' == id then k .normal r h else k (.exit id') r h
  | .loop c, regs, H, k =>
    match rowify E.ty (E.hint f (firstRegion c)).rows regs H [] with
    | some (regs', H', tg) => match tbl (firstRegion c) with
      | some s => s regs' H' tg k
      | none => none
    | none => none
  | .region id ops false, regs, H, k => evOps E inl (E.hint f id) (ops.toList.map (·.dst)) ops.toList regs H fun r h => k .normal r h
  | .region id ops true, regs, H, k => bif drawOk (masks ops.toList) ops.toList then evDraw E inl (E.hint f id) (masks ops.toList) ops.size (ops.toList.map (·.dst)) (rsvs H.length ops.toList) ops.toList ops.toList 0 [] regs (H ++ List.replicate (nRsv ops.toList) .dead) fun r h => k .normal r h else none
  | .rangeFunc g ps asg body, regs, H, k => bif rd then none else
    match vFunc (val regs .func g) with
    | some (gf, [], cs) => if hasBody E gf = true then inl (.fn gf) (.yield H.length :: cs) (H ++ [.loop .ready f (firstRegion body) (.tup (keep (E.hint f (firstRegion body)).live 0 regs))]) fun _ H' =>
      match H'[H.length]? with
      | some (.loop st _ _ _) => match st with
        | .ready => k .normal regs (H'.set H.length .dead)
        | .ret => k .ret regs (H'.set H.length .dead)
        | .exit id => k (.exit id) regs (H'.set H.length .dead)
        | .busy => none
      | _ => none
      else none
    | _ => none
  | _, _, _, _ => none
def Le {R : Type} (a b : Option R) : Prop := ∀ r, a = some r → b = some r
theorem Le.refl {R : Type} (a : Option R) : Le a a := fun _ h => h
theorem Le.trans {R : Type} {a b c : Option R} (h : Le a b) (k : Le b c) : Le a c := fun r hr => k r (h r hr)
theorem Le.none {R : Type} {b : Option R} : Le none b := fun _ h => by simp at h
section
variable {R : Type} {E : Env} {hint : Hint} {H : List AObj} {regs : List V}
theorem evOp_le {t : Nat} {op : Op} {k k' : V → Eff → Option R} (h : ∀ v e, Le (k v e) (k' v e)) : Le (evOp E hint H regs t op k) (evOp E hint H regs t op k') := by
  intro r hr
  obtain ⟨v, e, h1, h2⟩ := evOp_once hr
  rw [evOp_lin, h1]
  exact h v e r h2
def InlLe (inl inl' : Inl R) : Prop :=
  ∀ g args H k k', (∀ v h, Le (k v h) (k' v h)) → Le (inl g args H k) (inl' g args H k')
variable {inl inl' : Inl R}
theorem evOps_le (hi : InlLe inl inl') {ds : List (Option Nat)} {k k' : List V → List AObj → Option R} (h : ∀ r h, Le (k r h) (k' r h)) :
    ∀ (os : List Oper) (regs : List V) (H : List AObj), Le (evOps E inl hint ds os regs H k) (evOps E inl' hint ds os regs H k')
  | [], regs, H => by simp only [evOps]; exact h regs H
  | o :: os, regs, H => by
    have hgo : ∀ regs, Le
        (match inlines E regs o with
          | some (g, args) => inl g args H fun v H' => evOps E inl hint ds os (setD regs o.dst v) H' k
          | none => evOp E hint H regs o.type o.op fun v e => evOps E inl hint ds os (setD regs o.dst v) (e.app H) k)
        (match inlines E regs o with
          | some (g, args) => inl' g args H fun v H' => evOps E inl' hint ds os (setD regs o.dst v) H' k'
          | none => evOp E hint H regs o.type o.op fun v e => evOps E inl' hint ds os (setD regs o.dst v) (e.app H) k') := by
      intro regs
      split
      · exact hi _ _ _ _ _ fun v h' => evOps_le hi h os _ _
      · exact evOp_le fun v e => evOps_le hi h os _ _
    simp only [evOps]
    split
    · exact hgo _
    · rename_i j want hg
      split
      · split
        · split
          · cases want
            · exact evOps_le hi h os _ _
            · exact hgo _
          · cases want
            · exact hgo _
            · exact evOps_le hi h os _ _
        · exact evOps_le hi h os _ _
        · exact Le.refl _
      · exact Le.refl _
theorem evOpD_le {t : Nat} {op : Op} {rsv : Option Nat} {k k' : V → Eff → Option R} (h : ∀ v e, Le (k v e) (k' v e)) : Le (evOpD E hint H regs t op rsv k) (evOpD E hint H regs t op rsv k') := by
  intro r hr
  obtain ⟨v, e, h1, h2⟩ := evOpD_once hr
  rw [evOpD_lin, h1]
  exact h v e r h2
theorem evDraw_le (hi : InlLe inl inl') {ms : List Nat} {n : Nat} {ds rs : List (Option Nat)} {all : List Oper} {k k' : List V → List AObj → Option R} (h : ∀ r h, Le (k r h) (k' r h)) :
    ∀ (os : List Oper) (i : Nat) (lg : List Log) (regs : List V) (H : List AObj), Le (evDraw E inl hint ms n ds rs all os i lg regs H k) (evDraw E inl' hint ms n ds rs all os i lg regs H k')
  | [], i, lg, regs, H => by
    simp only [evDraw]
    cases pairsOk ms lg
    · exact Le.none
    · exact h regs H
  | o :: os, i, lg, regs, H => by
    have hgo : ∀ regs, Le
        (match inlines E regs o with
          | some (g, args) => bif pairsOk ms lg && (barrier ms n i && lateAll ms rs all i) then inl g args H fun v H' => bif (late ms i).all (recheck all rs regs H') then evDraw E inl hint ms n ds rs all os (i + 1) ((late ms i).map (relog all rs regs)) (setD regs o.dst v) H' k else none else none
          | none => evOpD E hint H regs o.type o.op (rs.getD i none) fun v e => evDraw E inl hint ms n ds rs all os (i + 1) (lg ++ [⟨i, opReads regs o.op ++ rsvR (rs.getD i none), e.writes H.length, e.still, (rs.getD i none).isSome, mapTag o.op⟩]) (setD regs o.dst v) (e.app H) k)
        (match inlines E regs o with
          | some (g, args) => bif pairsOk ms lg && (barrier ms n i && lateAll ms rs all i) then inl' g args H fun v H' => bif (late ms i).all (recheck all rs regs H') then evDraw E inl' hint ms n ds rs all os (i + 1) ((late ms i).map (relog all rs regs)) (setD regs o.dst v) H' k' else none else none
          | none => evOpD E hint H regs o.type o.op (rs.getD i none) fun v e => evDraw E inl' hint ms n ds rs all os (i + 1) (lg ++ [⟨i, opReads regs o.op ++ rsvR (rs.getD i none), e.writes H.length, e.still, (rs.getD i none).isSome, mapTag o.op⟩]) (setD regs o.dst v) (e.app H) k') := by
      intro regs
      split
      · cases pairsOk ms lg && (barrier ms n i && lateAll ms rs all i)
        · exact Le.none
        · refine hi _ _ _ _ _ fun v h' => ?_
          cases (late ms i).all (recheck all rs regs h')
          · exact Le.none
          · exact evDraw_le hi h os _ _ _ _
      · exact evOpD_le fun v e => evDraw_le hi h os _ _ _ _
    simp only [evDraw]
    split
    · exact hgo _
    · rename_i j want hg
      split
      · split
        · split
          · split
            · cases want
              · exact evDraw_le hi h os _ _ _ _
              · exact hgo _
            · cases want
              · exact hgo _
              · exact evDraw_le hi h os _ _ _ _
          · exact Le.refl _
        · exact evDraw_le hi h os _ _ _ _
        · exact Le.refl _
      · exact Le.refl _
theorem loopN_le {head : List V → List AObj → Option (List V × List AObj)} {body body' : List V → List AObj → (AExit → List V → List AObj → Option R) → Option R}
    (hb : ∀ r h k k', (∀ e r h, Le (k e r h) (k' e r h)) → Le (body r h k) (body' r h k')) :
    ∀ (n : Nat) (regs : List V) (H : List AObj) (k k' : AExit → List V → List AObj → Option R), (∀ e r h, Le (k e r h) (k' e r h)) → Le (loopN head body n regs H k) (loopN head body' n regs H k')
  | 0, _, _, _, _, _ => Le.refl _
  | n + 1, regs, H, k, k', hk => by
    simp only [loopN]
    split
    · refine hb _ _ _ _ fun e r h => ?_
      cases e with
      | normal => exact loopN_le hb n r h k k' hk
      | ret => exact hk .ret r h
      | exit id => exact hk (.exit id) r h
    · exact Le.refl _
theorem cutK_le {out : Option (List Nat)} {k k' : AExit → List V → List AObj → Option R} (hk : ∀ e r h, Le (k e r h) (k' e r h)) (e : AExit) (r : List V) (h : List AObj) : Le (cutK out k e r h) (cutK out k' e r h) := by
  cases e <;> exact hk _ _ _
theorem ev_le (hi : InlLe inl inl') {rd : Bool} {f base : Nat} : ∀ (c : Code) (regs : List V) (H : List AObj) (k k' : AExit → List V → List AObj → Option R), (∀ e r h, Le (k e r h) (k' e r h)) →
    Le (ev rd E inl f base c regs H k) (ev rd E inl' f base c regs H k') := by
  intro c
  induction c with
  | skip => intro regs H k k' h; exact h .normal regs H
  | label l => intro regs H k k' h; exact h .normal regs H
  | ret => intro regs H k k' h; exact h .ret regs H
  | exit id => intro regs H k k' h; exact h (.exit id) regs H
  | seq a b iha ihb =>
    intro regs H k k' h
    refine iha _ _ _ _ fun e r hh => ?_
    cases e with
    | normal => exact ihb _ _ _ _ h
    | ret => exact h .ret r hh
    | exit id => exact h (.exit id) r hh
  | cond c a b iha ihb =>
    intro regs H k k' h
    simp only [ev]
    split
    · split
      · exact iha _ _ _ _ h
      · exact ihb _ _ _ _ h
    · exact Le.refl _
  | block id c ih =>
    intro regs H k k' h
    refine ih _ _ _ _ fun e r hh => ?_
    cases e with
    | normal => exact h .normal r hh
    | ret => exact h .ret r hh
    | exit id' =>
      simp only []
      cases id' == id
      · exact h (.exit id') r hh
      · exact h .normal r hh
  | loop c ih =>
    intro regs H k k' h
    simp only [ev]
    split
    · exact loopN_le (fun r hh k k' hk => ih r hh _ _ (cutK_le hk)) _ _ _ _ _ h
    · exact Le.refl _
  | region id ops draw =>
    intro regs H k k' h
    cases draw with
    | false => simp only [ev]; exact evOps_le hi (fun r hh => h .normal r hh) _ _ _
    | true =>
      simp only [ev]
      cases drawOk (masks ops.toList) ops.toList
      · exact Le.none
      · exact evDraw_le hi (fun r hh => h .normal r hh) _ _ _ _ _
  | rangeFunc g ps asg body _ _ =>
    intro regs H k k' h
    simp only [ev]
    cases rd
    · simp only [cond_false]
      split
      · split
        · refine hi _ _ _ _ _ fun v H' => ?_
          split
          · split
            · exact h _ _ _
            · exact h _ _ _
            · exact h _ _ _
            · exact Le.refl _
          · exact Le.refl _
        · exact Le.refl _
      · exact Le.refl _
    · exact Le.refl _
  | scope => intro regs H k k' h; simp only [ev]; exact Le.refl _
  | goto => intro regs H k k' h; simp only [ev]; exact Le.refl _
  | refuse => intro regs H k k' h; simp only [ev]; exact Le.refl _
theorem call_mono : ∀ (n : Nat), InlLe (R := R) (call E n) (call E n)
  | 0 => fun _ _ _ _ _ _ => Le.refl _
  | n + 1 => by
    intro tg args H k k' h
    cases tg with
    | yield b =>
      simp only [call]
      split
      · split
        · split
          · refine ev_le (call_mono n) _ _ _ _ _ fun e r hh => ?_
            cases e with
            | normal =>
              simp only []
              cases isLoop hh b false
              · exact Le.refl _
              · simp only [cond_true]
                split
                · refine ev_le (call_mono n) _ _ _ _ _ fun e r hh => ?_
                  cases isLoop hh b true
                  · exact Le.refl _
                  · simp only [cond_true]
                    cases e with
                    | normal => simp only []; split
                                · exact h _ _
                                · exact Le.refl _
                    | ret => simp only []; split
                             · exact h _ _
                             · exact Le.refl _
                    | exit id => simp only []; split
                                 · exact h _ _
                                 · exact Le.refl _
                · exact Le.refl _
            | ret => exact Le.refl _
            | exit id => exact Le.refl _
          · exact Le.refl _
        · exact Le.refl _
      · exact Le.refl _
    | fn g =>
    simp only [call]
    split
    · split
      · rename_i cc v H' _
        cases cc
        · exact Le.none
        · exact h _ _
      · exact Le.refl _
    split
    · split
      · refine ev_le (call_mono n) _ _ _ _ _ fun e r hh => ?_
        cases e with
        | exit id => exact Le.refl _
        | normal => simp only []; split
                    · exact h _ _
                    · exact Le.refl _
        | ret => simp only []; split
                 · exact h _ _
                 · exact Le.refl _
      · exact Le.refl _
    · exact Le.refl _
end
def loopsOf : Code → List Code
  | .seq a b => loopsOf a ++ loopsOf b
  | .cond _ a b => loopsOf a ++ loopsOf b
  | .block _ c => loopsOf c
  | .loop c => c :: loopsOf c
  | _ => []
def SumOk (rd : Bool) (E : Env) (inl : Inl D) (f base : Nat) (c : Code) (s : Sum) : Prop :=
  ∀ regs H tg k, Le (s regs H tg k) (loopN (headSt base (E.hint f (firstRegion c)).live tg H.length) (fun r h k' => ev rd E inl f base c r h (cutK (E.hint f (firstRegion c)).out k')) E.fuel regs H k)
def TblOk (rd : Bool) (E : Env) (inl : Inl D) (f base : Nat) (tbl : Nat → Option Sum) (c : Code) : Prop :=
  ∀ c' ∈ loopsOf c, ∀ s, tbl (firstRegion c') = some s → SumOk rd E inl f base c' s
theorem evT_le {rd : Bool} {E : Env} {inl inl' : Inl D} (hi : InlLe inl inl') (hi' : InlLe inl' inl') {f base : Nat} {tbl : Nat → Option Sum} :
    ∀ (c : Code), TblOk rd E inl' f base tbl c → ∀ (regs : List V) (H : List AObj) (k k' : Kont), (∀ e r h, Le (k e r h) (k' e r h)) → Le (evT rd E inl f tbl c regs H k) (ev rd E inl' f base c regs H k') := by
  intro c
  induction c with
  | skip => intro T regs H k k' h; exact h .normal regs H
  | label l => intro T regs H k k' h; exact h .normal regs H
  | ret => intro T regs H k k' h; exact h .ret regs H
  | exit id => intro T regs H k k' h; exact h (.exit id) regs H
  | seq a b iha ihb =>
    intro T regs H k k' h
    refine iha (fun c' hc => T c' (by simp [loopsOf, hc])) _ _ _ _ fun e r hh => ?_
    cases e with
    | normal => exact ihb (fun c' hc => T c' (by simp [loopsOf, hc])) _ _ _ _ h
    | ret => exact h .ret r hh
    | exit id => exact h (.exit id) r hh
  | cond c a b iha ihb =>
    intro T regs H k k' h
    simp only [ev, evT]
    cases hv : val regs K.bool c with
    | d κ x =>
      cases κ with
      | bool =>
        simp only []
        cases x.b
        · exact ihb (fun c' hc => T c' (by simp [loopsOf, hc])) _ _ _ _ h
        · exact iha (fun c' hc => T c' (by simp [loopsOf, hc])) _ _ _ _ h
      | _ => exact Le.none
    | _ => exact Le.none
  | block id c ih =>
    intro T regs H k k' h
    refine ih (fun c' hc => T c' (by simpa [loopsOf] using hc)) _ _ _ _ fun e r hh => ?_
    cases e with
    | normal => exact h .normal r hh
    | ret => exact h .ret r hh
    | exit id' =>
      simp only []
      cases id' == id
      · exact h (.exit id') r hh
      · exact h .normal r hh
  | loop c ih =>
    intro T regs H k k' h
    simp only [ev, evT]
    cases hr : rowify E.ty (E.hint f (firstRegion c)).rows regs H [] with
    | none => exact Le.none
    | some p =>
      obtain ⟨regs1, H1, tg⟩ := p
      simp only []
      split
      · rename_i s hs
        refine Le.trans (T c (by simp [loopsOf]) s hs _ _ _ _) ?_
        exact loopN_le (fun r hh k k' hk => ev_le hi' c r hh _ _ (cutK_le hk)) _ _ _ _ _ h
      · exact Le.none
  | region id ops draw =>
    intro T regs H k k' h
    cases draw with
    | false => simp only [ev, evT]; exact evOps_le hi (fun r hh => h .normal r hh) _ _ _
    | true =>
      simp only [ev, evT]
      cases drawOk (masks ops.toList) ops.toList
      · exact Le.none
      · exact evDraw_le hi (fun r hh => h .normal r hh) _ _ _ _ _
  | rangeFunc g ps asg body _ _ =>
    intro T regs H k k' h
    simp only [ev, evT]
    cases rd
    · simp only [cond_false]
      cases hv : vFunc (val regs .func g) with
      | none => exact Le.none
      | some p =>
        obtain ⟨gf, fs, cs⟩ := p
        cases fs with
        | cons _ _ => exact Le.none
        | nil =>
          simp only []
          by_cases hb : hasBody E gf = true
          · rw [if_pos hb, if_pos hb]
            refine hi _ _ _ _ _ fun v H' => ?_
            cases H'[H.length]? with
            | none => exact Le.none
            | some o =>
              cases o with
              | loop st f id u =>
                cases st with
                | ready => exact h _ _ _
                | ret => exact h _ _ _
                | exit id => exact h _ _ _
                | busy => exact Le.none
              | _ => exact Le.none
          · rw [if_neg hb, if_neg hb]; exact Le.none
    · exact Le.none
  | scope => intro T regs H k k' h; simp only [evT]; exact Le.none
  | goto => intro T regs H k k' h; simp only [evT]; exact Le.none
  | refuse => intro T regs H k k' h; simp only [evT]; exact Le.none
abbrev Tbl := Nat → Nat → Nat → Nat → Option Sum
def callS (E : Env) (T : Tbl) : Nat → Inl D
  | 0, _, _, _, _ => none
  | n + 1, .yield b, args, H, k => match H[b]? with
    | some (.loop .ready f id (.tup regs)) => match E.rnd f id with
      | some (ps, asg, body) => if args.length = ps.length then
        evT true E (callS E T n) f (T f n H.length) asg (setPs ps args regs) H fun e regs1 H1 => match e with
          | .normal => bif isLoop H1 b false then match setLoop .busy b H1 with
            | some H2 => evT true E (callS E T n) f (T f n H.length) body regs1 H2 fun e _ H3 => bif isLoop H3 b true then match e with
                | .normal => match setLoop .ready b H3 with | some H4 => k (.d .bool (.bool true)) H4 | none => none
                | .ret => match setLoop .ret b H3 with | some H4 => k (.d .bool (.bool false)) H4 | none => none
                | .exit id => match setLoop (.exit id) b H3 with | some H4 => k (.d .bool (.bool false)) H4 | none => none
              else none
            | none => none
            else none
          | _ => none
        else none
      | none => none
    | _ => none
  | n + 1, .fn f, args, H, k => match E.ext f with
    | some x => match x args H with
      | some (c, v, H') => bif c then k v H' else none
      | none => none
    | none => match E.fn f with
    | some fn => match fn.body with
      | some c => evT false E (callS E T n) f (T f n H.length) c (args ++ List.replicate (fn.ntmps - args.length) .undef) H fun e regs H' => match e with
        | .exit _ => none
        | _ => match resVals E regs H' fn.results.toList with
          | some vs => k (oneOf vs) H'
          | none => none
      | none => none
    | none => none
def AllOk (E : Env) (T : Tbl) : Prop := ∀ f fn c n base, E.fn f = some fn → fn.body = some c → TblOk false E (call E n) f base (T f n base) c ∧ ∀ x ∈ rounds c, TblOk true E (call E n) f base (T f n base) x.2.2.1 ∧ TblOk true E (call E n) f base (T f n base) x.2.2.2
theorem rnd_ok {E : Env} {T : Tbl} (hT : AllOk E T) {f id n base : Nat} {ps : List Nat} {asg body : Code} (h : E.rnd f id = some (ps, asg, body)) :
    TblOk true E (call E n) f base (T f n base) asg ∧ TblOk true E (call E n) f base (T f n base) body := by
  simp only [Env.rnd] at h
  split at h
  · rename_i fn hfn
    split at h
    · rename_i c hc
      exact (hT f fn c n base hfn hc).2 _ (findRound_mem h)
    · simp at h
  · simp at h
theorem callS_le {E : Env} {T : Tbl} (hT : AllOk E T) : ∀ (n : Nat), InlLe (callS E T n) (call E n)
  | 0 => fun _ _ _ _ _ _ => Le.refl _
  | n + 1 => by
    intro tg args H k k' h
    cases tg with
    | yield b =>
      simp only [callS, call]
      cases hHb : H[b]? with
      | none => exact Le.none
      | some o =>
      cases o with
      | loop st f id u =>
        cases st with
        | ready =>
          cases u with
          | tup regs =>
            simp only []
            cases hr : E.rnd f id with
            | none => exact Le.none
            | some p =>
              obtain ⟨ps, asg, body⟩ := p
              simp only []
              by_cases hl : args.length = ps.length
              case neg => rw [if_neg hl]; exact Le.none
              rw [if_pos hl, if_pos hl]
              obtain ⟨T1, T2⟩ := rnd_ok hT (n := n) (base := H.length) hr
              refine evT_le (callS_le hT n) (call_mono n) asg T1 _ _ _ _ fun e r hh => ?_
              cases e with
              | normal =>
                simp only []
                cases isLoop hh b false
                · exact Le.none
                · simp only [cond_true]
                  cases setLoop .busy b hh with
                  | none => exact Le.none
                  | some H2 =>
                    simp only []
                    refine evT_le (callS_le hT n) (call_mono n) body T2 _ _ _ _ fun e r hh => ?_
                    cases isLoop hh b true
                    · exact Le.none
                    · simp only [cond_true]
                      cases e with
                      | normal =>
                        simp only []
                        cases setLoop .ready b hh with
                        | none => exact Le.none
                        | some H4 => exact h _ _
                      | ret =>
                        simp only []
                        cases setLoop .ret b hh with
                        | none => exact Le.none
                        | some H4 => exact h _ _
                      | exit id =>
                        simp only []
                        cases setLoop (.exit id) b hh with
                        | none => exact Le.none
                        | some H4 => exact h _ _
              | ret => exact Le.none
              | exit id => exact Le.none
          | _ => exact Le.none
        | _ => exact Le.none
      | _ => exact Le.none
    | fn f =>
    simp only [callS, call]
    cases hx : E.ext f with
    | some x =>
      simp only []
      cases x args H with
      | none => exact Le.none
      | some p =>
        obtain ⟨cc, v, H'⟩ := p
        cases cc
        · exact Le.none
        · exact h _ _
    | none =>
    simp only []
    cases hf : E.fn f with
    | none => exact Le.none
    | some fn =>
      simp only []
      cases hb : fn.body with
      | none => exact Le.none
      | some c =>
        simp only []
        refine evT_le (callS_le hT n) (call_mono n) c (hT f fn c n H.length hf hb).1 _ _ _ _ fun e r hh => ?_
        cases e with
        | exit id => exact Le.refl _
        | normal =>
          simp only []
          cases resVals E r hh fn.results.toList with
          | none => exact Le.none
          | some vs => exact h _ _
        | ret =>
          simp only []
          cases resVals E r hh fn.results.toList with
          | none => exact Le.none
          | some vs => exact h _ _
end Go.AM
namespace Go.AM
open Go Go.RowKit
mutual
def D.has (ty : Nat → K) : D → K → Prop
  | .bool _, κ => κ = .bool
  | .int k _, κ => κ = .int k
  | .str _, κ => κ = .str
  | .agg ds, κ => κ.isAgg = true ∧ D.hass ty ds (κ.kids ty)
  | .slice nn ds, κ => ∃ e, κ = .slice e ∧ D.hass ty ds (List.replicate ds.length (ty e)) ∧ (nn = false → ds = [])
  | .iface t x, κ => (∃ m, κ = .iface m) ∧ notIface (ty t) = true ∧ D.has ty x (ty t)
  | .nilIface, κ => ∃ m, κ = .iface m
  | .fn _, κ => κ = .func
  | .nilFunc, κ => κ = .func
  | .nilPtr, κ => ∃ e, κ = .ptr e
  | .nilMap, κ => ∃ a e, κ = .map a e
  | .tup _, _ => False
def D.hass (ty : Nat → K) : List D → List K → Prop
  | [], κs => κs = []
  | d :: ds, κs => ∃ κ κs', κs = κ :: κs' ∧ D.has ty d κ ∧ D.hass ty ds κs'
end
section
variable {ty : Nat → K}
mutual
theorem rep_has {M : Mem} : ∀ (d : D) (κ : K) (v : Value), Rep ty M d κ v → D.has ty d κ
  | .bool _, _, _, h => by simp only [Rep] at h; simp only [D.has]; exact h.1
  | .int _ _, _, _, h => by simp only [Rep] at h; simp only [D.has]; exact h.1
  | .str _, _, _, h => by simp only [Rep] at h; simp only [D.has]; exact h.1
  | .agg ds, _, _, h => by
    simp only [Rep] at h; simp only [D.has]
    obtain ⟨a, cs, _, c⟩ := h
    exact ⟨a, reps_has ds _ _ c⟩
  | .slice nn ds, _, _, h => by
    simp only [Rep] at h; simp only [D.has]
    obtain ⟨e, a, cap, h1, _, h3, h4, h5, h6⟩ := h
    refine ⟨e, h1, ?_, ?_⟩
    · rcases h6 with rfl | ⟨_, cs, _, _, h7⟩
      · simp [D.hass]
      · exact reps_has ds _ _ h7
    · rintro rfl
      have ha : a = none := by cases a with | none => rfl | some _ => simp at h4
      have := h5 ha
      exact List.eq_nil_of_length_eq_zero (by omega)
  | .iface t x, _, _, h => by
    simp only [Rep] at h; simp only [D.has]
    obtain ⟨a, b, y, _, c⟩ := h
    exact ⟨a, b, rep_has x _ _ c⟩
  | .nilIface, _, _, h => by simp only [Rep] at h; simp only [D.has]; exact h.1
  | .fn _, _, _, h => by simp only [Rep] at h; simp only [D.has]; exact h.1
  | .nilFunc, _, _, h => by simp only [Rep] at h; simp only [D.has]; exact h.1
  | .nilPtr, _, _, h => by simp only [Rep] at h; simp only [D.has]; exact h.1
  | .nilMap, _, _, h => by simp only [Rep] at h; simp only [D.has]; exact h.1
  | .tup _, _, _, h => by simp only [Rep] at h
theorem reps_has {M : Mem} : ∀ (ds : List D) (κs : List K) (cs : List Value), Reps ty M ds κs cs → D.hass ty ds κs
  | [], _, _, h => by simp only [Reps] at h; simp only [D.hass]; exact h.1
  | d :: ds, _, _, h => by
    simp only [Reps] at h; simp only [D.hass]
    obtain ⟨κ, κs', x, rest, h1, _, h2, h3⟩ := h
    exact ⟨κ, κs', h1, rep_has d _ _ h2, reps_has ds _ _ h3⟩
end
theorem each_has {M : Mem} : ∀ (ds : List D) (κs : List K) (xs : List Value), Each ty M ds κs xs → D.hass ty ds κs
  | [], _, _, h => by simp only [Each] at h; simp only [D.hass]; exact h.1
  | d :: ds, _, _, h => by
    simp only [Each] at h; simp only [D.hass]
    obtain ⟨κ, κs', x, rest, h1, _, h2, h3⟩ := h
    exact ⟨κ, κs', h1, rep_has d _ _ h2, each_has ds _ _ h3⟩
variable {P : Program} {I : World → Prop} {gl : Nat}
def Comes (P : Program) (ty : Nat → K) (I : World → Prop) (gl f : Nat) (fn : Func) (ds : List D) (r : D) (fin : (Nat → K) → List Nat → V → List AObj → Option D) : Prop :=
  ∃ (E : Env) (n : Nat) (T : Tbl), EnvOk P E I gl ∧ E.ty = ty ∧ AllOk E T ∧
    callS E T n (.fn f) (List.zipWith V.d (fn.params.toList.map ty) ds) [] (fun v H => fin ty fn.resultTypes.toList v H) = some r
theorem contract_of (hgl : ∀ w, I w → gl ≤ w.heap.size) {f : Nat} {fn : Func} {c : Con} (hfresh : c.fresh = false)
    (hrun : ∀ ds r, D.hass ty ds (fn.params.toList.map ty) → c.run ds = some r → Comes P ty I gl f fn ds r finish)
    (hplain : c.plain = true → ∀ ds r, D.hass ty ds (fn.params.toList.map ty) → c.run ds = some r → r.noMem = true) : Contract P ty I f fn c := by
  classical
  intro X w ds xs r hIw hX hE hr
  have hH := each_has _ _ _ hE
  obtain ⟨E, n, T, EO, rfl, hT, hrr⟩ := hrun ds r hH hr
  have h1 := callS_le hT n (.fn f) _ _ _ _ (fun _ _ => Le.refl _) r hrr
  have := contract_of_run EO hgl (depth := n) (f := f) (fn := fn) (c := { c with run := fun ds' => if ds' = ds then some r else none }) hfresh (fun ds' r' h => by
    by_cases hd : ds' = ds
    · subst hd; simp at h; subst h; exact h1
    · simp [hd] at h) (fun hp ds' r' h => by
    by_cases hd : ds' = ds
    · subst hd; simp at h; subst h; exact hplain hp ds' r hH hr
    · simp [hd] at h)
  exact this X w ds xs r hIw hX hE (by simp)
theorem contract_of_fresh (hgl : ∀ w, I w → gl ≤ w.heap.size) {f : Nat} {fn : Func} {c : Con} (hplain : c.plain = false) (hfresh : c.fresh = true)
    (hrun : ∀ ds r, D.hass ty ds (fn.params.toList.map ty) → c.run ds = some r → Comes P ty I gl f fn ds r finishFresh) : Contract P ty I f fn c := by
  classical
  intro X w ds xs r hIw hX hE hr
  have hH := each_has _ _ _ hE
  obtain ⟨E, n, T, EO, rfl, hT, hrr⟩ := hrun ds r hH hr
  have h1 := callS_le hT n (.fn f) _ _ _ _ (fun _ _ => Le.refl _) r hrr
  have := contract_of_runFresh EO hgl (depth := n) (f := f) (fn := fn) (c := { c with run := fun ds' => if ds' = ds then some r else none }) hplain hfresh (fun ds' r' h => by
    by_cases hd : ds' = ds
    · subst hd; simp at h; subst h; exact h1
    · simp [hd] at h)
  exact this X w ds xs r hIw hX hE (by simp)
end
end Go.AM
namespace Go.AM
open Go
inductive Leaf where
  | i (n : Int) | b (x : Bool) | s (x : ByteArray) | d (x : D) | l (x : List D) | n (x : Nat) | m (x : List (D × D))
inductive PD where
  | x | int (k : IntKind) | bool | str | slice | agg (ps : List PD) | iface (t : Nat) (p : PD) | nilIface | fn (f : Nat) | nilFunc | nilPtr
inductive PV where
  | undef | d (κ : K) (p : PD) | agg (κ : K) (ps : List PV) | dtup (κs : List K) (p : PD) | sref (b : Nat) | lit (e : Nat) | ptr (b : Nat) (path : List Nat) (κ : K) | cptr (κ : K) (p : PD)
  | func (f : Nat) (a c : List PV) | iface (t : Nat) (p : PV) | iter (b : Nat) | yield (b : Nat) | map (b : Nat) | tup (ps : List PV)
inductive PO where
  | var (κ : K) (p : PV) | row (e : Nat) (own : Bool) | map (a e : Nat) | iter | dead | loop (busy : Bool) (f id : Nat) (p : PV)
mutual
def takeD : PD → D → Option (List Leaf)
  | .x, x => some [.d x]
  | .int k, .int k' n => if k = k' then some [.i n] else none
  | .bool, .bool x => some [.b x]
  | .str, .str x => some [.s x]
  | .slice, .slice nn ds => some [.b nn, .l ds]
  | .agg ps, .agg ds => takeDs ps ds
  | .iface t p, .iface t' x => if t = t' then takeD p x else none
  | .nilIface, .nilIface => some []
  | .fn f, .fn g => if f = g then some [] else none
  | .nilFunc, .nilFunc => some []
  | .nilPtr, .nilPtr => some []
  | _, _ => none
def takeDs : List PD → List D → Option (List Leaf)
  | [], [] => some []
  | p :: ps, x :: xs => match takeD p x with
    | some l => match takeDs ps xs with | some l' => some (l ++ l') | none => none
    | none => none
  | _, _ => none
end
mutual
def fillD : PD → List Leaf → D × List Leaf
  | .x, .d x :: r => (x, r)
  | .int k, .i n :: r => (.int k n, r)
  | .bool, .b x :: r => (.bool x, r)
  | .str, .s x :: r => (.str x, r)
  | .slice, .b nn :: .l ds :: r => (.slice nn ds, r)
  | .agg ps, r => (.agg (fillDs ps r).1, (fillDs ps r).2)
  | .iface t p, r => (.iface t (fillD p r).1, (fillD p r).2)
  | .nilIface, r => (.nilIface, r)
  | .fn f, r => (.fn f, r)
  | .nilFunc, r => (.nilFunc, r)
  | .nilPtr, r => (.nilPtr, r)
  | _, r => (.nilFunc, r)
def fillDs : List PD → List Leaf → List D × List Leaf
  | [], r => ([], r)
  | p :: ps, r => ((fillD p r).1 :: (fillDs ps (fillD p r).2).1, (fillDs ps (fillD p r).2).2)
end
mutual
theorem takeD_ok : ∀ (p : PD) (x : D) (ls rest : List Leaf), takeD p x = some ls → fillD p (ls ++ rest) = (x, rest)
  | .x, x, ls, rest, h => by simp [takeD] at h; subst h; rfl
  | .int k, x, ls, rest, h => by cases x <;> simp [takeD] at h; obtain ⟨rfl, rfl⟩ := h; rfl
  | .bool, x, ls, rest, h => by cases x <;> simp [takeD] at h; subst h; rfl
  | .str, x, ls, rest, h => by cases x <;> simp [takeD] at h; subst h; rfl
  | .slice, x, ls, rest, h => by cases x <;> simp [takeD] at h; subst h; rfl
  | .agg ps, x, ls, rest, h => by
    cases x <;> simp [takeD] at h
    have := takeDs_ok ps _ ls rest h
    simp [fillD, this]
  | .iface t p, x, ls, rest, h => by
    cases x <;> simp [takeD] at h
    obtain ⟨rfl, h⟩ := h
    have := takeD_ok p _ ls rest h
    simp [fillD, this]
  | .nilIface, x, ls, rest, h => by cases x <;> simp [takeD] at h; subst h; simp [fillD]
  | .fn f, x, ls, rest, h => by cases x <;> simp [takeD] at h; obtain ⟨rfl, rfl⟩ := h; simp [fillD]
  | .nilFunc, x, ls, rest, h => by cases x <;> simp [takeD] at h; subst h; simp [fillD]
  | .nilPtr, x, ls, rest, h => by cases x <;> simp [takeD] at h; subst h; simp [fillD]
theorem takeDs_ok : ∀ (ps : List PD) (xs : List D) (ls rest : List Leaf), takeDs ps xs = some ls → fillDs ps (ls ++ rest) = (xs, rest)
  | [], xs, ls, rest, h => by cases xs <;> simp [takeDs] at h; subst h; simp [fillDs]
  | p :: ps, xs, ls, rest, h => by
    cases xs with
    | nil => simp [takeDs] at h
    | cons x xs =>
      simp only [takeDs] at h
      split at h
      · rename_i l hl
        split at h
        · rename_i l' hl'
          simp only [Option.some.injEq] at h
          subst h
          have h1 := takeD_ok p x l (l' ++ rest) hl
          have h2 := takeDs_ok ps xs l' rest hl'
          simp [fillDs, h1, h2]
        · simp at h
      · simp at h
end
mutual
def takeV : PV → V → Option (List Leaf)
  | .undef, .undef => some []
  | .d κ p, .d κ' x => if κ = κ' then takeD p x else none
  | .agg κ ps, .agg κ' vs => if κ = κ' then takeVs ps vs else none
  | .dtup κs p, .dtup κs' x => if κs = κs' then takeD p x else none
  | .sref b, .sref b' off len => if b = b' then some [.n off, .n len] else none
  | .lit e, .lit e' ds => if e = e' then some [.l ds] else none
  | .ptr b p κ, .ptr b' p' κ' => if b = b' ∧ p = p' ∧ κ = κ' then some [] else none
  | .cptr κ p, .cptr κ' x => if κ = κ' then takeD p x else none
  | .func f a c, .func (.func f') a' c' => if f = f' then match takeVs a a' with
    | some l => match takeVs c c' with | some l' => some (l ++ l') | none => none
    | none => none else none
  | .iface t p, .iface t' v => if t = t' then takeV p v else none
  | .iter b, .iter b' => if b = b' then some [] else none
  | .yield b, .yield b' => if b = b' then some [] else none
  | .map b, .map b' => if b = b' then some [] else none
  | .tup ps, .tup vs => takeVs ps vs
  | _, _ => none
def takeVs : List PV → List V → Option (List Leaf)
  | [], [] => some []
  | p :: ps, x :: xs => match takeV p x with
    | some l => match takeVs ps xs with | some l' => some (l ++ l') | none => none
    | none => none
  | _, _ => none
end
mutual
def fillV : PV → List Leaf → V × List Leaf
  | .undef, r => (.undef, r)
  | .d κ p, r => (.d κ (fillD p r).1, (fillD p r).2)
  | .agg κ ps, r => (.agg κ (fillVs ps r).1, (fillVs ps r).2)
  | .dtup κs p, r => (.dtup κs (fillD p r).1, (fillD p r).2)
  | .sref b, .n off :: .n len :: r => (.sref b off len, r)
  | .lit e, .l ds :: r => (.lit e ds, r)
  | .ptr b p κ, r => (.ptr b p κ, r)
  | .cptr κ p, r => (.cptr κ (fillD p r).1, (fillD p r).2)
  | .func f a c, r => (.func (.func f) (fillVs a r).1 (fillVs c (fillVs a r).2).1, (fillVs c (fillVs a r).2).2)
  | .iface t p, r => (.iface t (fillV p r).1, (fillV p r).2)
  | .iter b, r => (.iter b, r)
  | .yield b, r => (.yield b, r)
  | .map b, r => (.map b, r)
  | .tup ps, r => (.tup (fillVs ps r).1, (fillVs ps r).2)
  | _, r => (.undef, r)
def fillVs : List PV → List Leaf → List V × List Leaf
  | [], r => ([], r)
  | p :: ps, r => ((fillV p r).1 :: (fillVs ps (fillV p r).2).1, (fillVs ps (fillV p r).2).2)
end
mutual
theorem takeV_ok : ∀ (p : PV) (x : V) (ls rest : List Leaf), takeV p x = some ls → fillV p (ls ++ rest) = (x, rest)
  | .undef, x, ls, rest, h => by cases x <;> simp [takeV] at h; subst h; simp [fillV]
  | .d κ p, x, ls, rest, h => by
    cases x <;> simp [takeV] at h
    obtain ⟨rfl, h⟩ := h
    simp [fillV, takeD_ok p _ ls rest h]
  | .agg κ ps, x, ls, rest, h => by
    cases x <;> simp [takeV] at h
    obtain ⟨rfl, h⟩ := h
    simp [fillV, takeVs_ok ps _ ls rest h]
  | .dtup κ p, x, ls, rest, h => by
    cases x <;> simp [takeV] at h
    obtain ⟨rfl, h⟩ := h
    simp [fillV, takeD_ok p _ ls rest h]
  | .sref b, x, ls, rest, h => by cases x <;> simp [takeV] at h; obtain ⟨rfl, rfl⟩ := h; rfl
  | .lit b, x, ls, rest, h => by cases x <;> simp [takeV] at h; obtain ⟨rfl, rfl⟩ := h; rfl
  | .ptr b p κ, x, ls, rest, h => by cases x <;> simp [takeV] at h; obtain ⟨⟨rfl, rfl, rfl⟩, rfl⟩ := h; simp [fillV]
  | .cptr κ p, x, ls, rest, h => by
    cases x <;> simp [takeV] at h
    obtain ⟨rfl, h⟩ := h
    simp [fillV, takeD_ok p _ ls rest h]
  | .func f a c, x, ls, rest, h => by
    cases x with
    | func g a' c' =>
      cases g with
      | func g =>
        simp only [takeV] at h
        split at h
        · rename_i hf
          subst hf
          split at h
          · rename_i l hl
            split at h
            · rename_i l' hl'
              simp only [Option.some.injEq] at h
              subst h
              have h1 := takeVs_ok a _ l (l' ++ rest) hl
              have h2 := takeVs_ok c _ l' rest hl'
              simp [fillV, h1, h2]
            · simp at h
          · simp at h
        · simp at h
      | _ => simp [takeV] at h
    | _ => simp [takeV] at h
  | .iface t p, x, ls, rest, h => by
    cases x <;> simp [takeV] at h
    obtain ⟨rfl, h⟩ := h
    simp [fillV, takeV_ok p _ ls rest h]
  | .iter b, x, ls, rest, h => by cases x <;> simp [takeV] at h; obtain ⟨rfl, rfl⟩ := h; simp [fillV]
  | .yield b, x, ls, rest, h => by cases x <;> simp [takeV] at h; obtain ⟨rfl, rfl⟩ := h; simp [fillV]
  | .map b, x, ls, rest, h => by cases x <;> simp [takeV] at h; obtain ⟨rfl, rfl⟩ := h; simp [fillV]
  | .tup ps, x, ls, rest, h => by
    cases x <;> simp [takeV] at h
    simp [fillV, takeVs_ok ps _ ls rest h]
theorem takeVs_ok : ∀ (ps : List PV) (xs : List V) (ls rest : List Leaf), takeVs ps xs = some ls → fillVs ps (ls ++ rest) = (xs, rest)
  | [], xs, ls, rest, h => by cases xs <;> simp [takeVs] at h; subst h; simp [fillVs]
  | p :: ps, xs, ls, rest, h => by
    cases xs with
    | nil => simp [takeVs] at h
    | cons x xs =>
      simp only [takeVs] at h
      split at h
      · rename_i l hl
        split at h
        · rename_i l' hl'
          simp only [Option.some.injEq] at h
          subst h
          have h1 := takeV_ok p x l (l' ++ rest) hl
          have h2 := takeVs_ok ps xs l' rest hl'
          simp [fillVs, h1, h2]
        · simp at h
      · simp at h
end
def takeO : PO → AObj → Option (List Leaf)
  | .var κ p, .var κ' v => if κ = κ' then takeV p v else none
  | .row e own, .row e' own' nn ds => if e = e' ∧ own = own' then some [.b nn, .l ds] else none
  | .map a e, .map a' e' es => if a = a' ∧ e = e' then some [.m es] else none
  | .iter, .iter s n => some [.s s, .n n]
  | .dead, .dead => some []
  | .loop false f id p, .loop .ready f' id' u => if f = f' ∧ id = id' then takeV p u else none
  | .loop true f id p, .loop .busy f' id' u => if f = f' ∧ id = id' then takeV p u else none
  | _, _ => none
def fillO : PO → List Leaf → AObj × List Leaf
  | .var κ p, r => (.var κ (fillV p r).1, (fillV p r).2)
  | .row e own, .b nn :: .l ds :: r => (.row e own nn ds, r)
  | .map a e, .m es :: r => (.map a e es, r)
  | .iter, .s s :: .n n :: r => (.iter s n, r)
  | .loop bo f id p, r => (.loop (bif bo then .busy else .ready) f id (fillV p r).1, (fillV p r).2)
  | _, r => (.dead, r)
theorem takeO_ok (p : PO) (x : AObj) (ls rest : List Leaf) (h : takeO p x = some ls) : fillO p (ls ++ rest) = (x, rest) := by
  cases p with
  | var κ p => cases x <;> simp [takeO] at h; obtain ⟨rfl, h⟩ := h; simp [fillO, takeV_ok _ _ ls rest h]
  | row e own => cases x <;> simp [takeO] at h; obtain ⟨⟨rfl, rfl⟩, rfl⟩ := h; rfl
  | map a e => cases x <;> simp [takeO] at h; obtain ⟨⟨rfl, rfl⟩, rfl⟩ := h; rfl
  | iter => cases x <;> simp [takeO] at h; subst h; rfl
  | dead => cases x <;> simp [takeO] at h; subst h; simp [fillO]
  | loop bo f id p =>
    cases x with
    | loop st f' id' u =>
      cases bo <;> cases st <;> simp [takeO] at h
      all_goals
        obtain ⟨⟨rfl, rfl⟩, h⟩ := h
        simp [fillO, takeV_ok _ _ ls rest h]
    | _ => cases bo <;> simp [takeO] at h
def takeOs : List PO → List AObj → Option (List Leaf)
  | [], [] => some []
  | p :: ps, x :: xs => match takeO p x with
    | some l => match takeOs ps xs with | some l' => some (l ++ l') | none => none
    | none => none
  | _, _ => none
def fillOs : List PO → List Leaf → List AObj × List Leaf
  | [], r => ([], r)
  | p :: ps, r => ((fillO p r).1 :: (fillOs ps (fillO p r).2).1, (fillOs ps (fillO p r).2).2)
theorem takeOs_ok : ∀ (ps : List PO) (xs : List AObj) (ls rest : List Leaf), takeOs ps xs = some ls → fillOs ps (ls ++ rest) = (xs, rest)
  | [], xs, ls, rest, h => by cases xs <;> simp [takeOs] at h; subst h; simp [fillOs]
  | p :: ps, xs, ls, rest, h => by
    cases xs with
    | nil => simp [takeOs] at h
    | cons x xs =>
      simp only [takeOs] at h
      split at h
      · rename_i l hl
        split at h
        · rename_i l' hl'
          simp only [Option.some.injEq] at h
          subst h
          have h1 := takeO_ok p x l (l' ++ rest) hl
          have h2 := takeOs_ok ps xs l' rest hl'
          simp [fillOs, h1, h2]
        · simp at h
      · simp at h
def takeSt (ps : List PV) (qs : List PO) (tg0 : List (Nat × Nat)) (regs : List V) (H : List AObj) (tg : List (Nat × Nat)) : Option (List Leaf) :=
  bif tg == tg0 then
    match takeVs ps regs with
    | some l => match takeOs qs H with | some l' => some (l ++ l') | none => none
    | none => none
  else none
theorem takeSt_ok {ps : List PV} {qs : List PO} {tg0 : List (Nat × Nat)} {regs : List V} {H : List AObj} {tg : List (Nat × Nat)} {ls : List Leaf} (h : takeSt ps qs tg0 regs H tg = some ls) :
    tg = tg0 ∧ regs = (fillVs ps ls).1 ∧ H = (fillOs qs (fillVs ps ls).2).1 := by
  unfold takeSt at h
  rw [Bool.cond_eq_ite] at h
  split at h
  · rename_i ht
    split at h
    · rename_i l hl
      split at h
      · rename_i l' hl'
        simp only [Option.some.injEq] at h
        subst h
        have h1 := takeVs_ok ps _ l l' hl
        have h2 := takeOs_ok qs _ l' [] hl'
        rw [List.append_nil] at h2
        exact ⟨by simpa using ht, by rw [h1], by rw [h1, h2]⟩
      · simp at h
    · simp at h
  · simp at h
theorem keep_keep (live : List Nat) : ∀ (i : Nat) (regs : List V), keep live i (keep live i regs) = keep live i regs
  | _, [] => rfl
  | i, v :: vs => by
    simp only [keep, keep_keep live (i + 1) vs]
    cases live.contains i <;> rfl
theorem headSt_keep {base n0 : Nat} {live : List Nat} {tg : List (Nat × Nat)} {regs : List V} {H : List AObj} : headSt base live tg n0 (keep live 0 regs) H = headSt base live tg n0 regs H := by
  unfold headSt
  rw [keep_keep]
theorem loopN_keep {R : Type} {base n0 : Nat} {live : List Nat} {tg : List (Nat × Nat)} {body : List V → List AObj → (AExit → List V → List AObj → Option R) → Option R} {n : Nat} {regs : List V} {H : List AObj} {k : AExit → List V → List AObj → Option R} :
    loopN (headSt base live tg n0) body n (keep live 0 regs) H k = loopN (headSt base live tg n0) body n regs H k := by
  cases n with
  | zero => rfl
  | succ n => simp only [loopN, headSt_keep]
structure Ent where
  f : Nat
  n : Nat
  base : Nat
  id : Nat
  s : Sum
def tblOf (l : List Ent) : Tbl := fun f n base id => match l.find? fun e => e.f == f && e.n == n && e.base == base && e.id == id with
  | some e => some e.s
  | none => none
def loopsIn (c : Code) : List Code := ((rounds c).map fun x => loopsOf x.2.2.1 ++ loopsOf x.2.2.2).flatten
def loopAt (E : Env) (f id : Nat) : Code := match E.fn f with
  | some fn => match fn.body with
    | some c => ((loopsOf c ++ loopsIn c).find? fun c' => firstRegion c' == id).getD .skip
    | none => .skip
  | none => .skip
def oneLoop (E : Env) (f id : Nat) : Bool := match E.fn f with
  | some fn => match fn.body with
    | some c => ((loopsOf c ++ loopsIn c).filter fun c' => firstRegion c' == id).length == 1
    | none => false
  | none => false
def loopRd (E : Env) (f id : Nat) : Bool := match E.fn f with
  | some fn => match fn.body with
    | some c => !(loopsOf c).any fun c' => firstRegion c' == id
    | none => false
  | none => false
theorem loopAt_ok {E : Env} {f id : Nat} (h : oneLoop E f id = true) {fn : Func} {c c' : Code} (hf : E.fn f = some fn) (hb : fn.body = some c) (hc : c' ∈ loopsOf c ++ loopsIn c) (hi : firstRegion c' = id) : c' = loopAt E f id := by
  unfold oneLoop at h
  unfold loopAt
  rw [hf] at h ⊢
  simp only [hb] at h ⊢
  have hm : c' ∈ (loopsOf c ++ loopsIn c).filter fun c' => firstRegion c' == id := List.mem_filter.2 ⟨hc, by simpa using hi⟩
  obtain ⟨x, hx⟩ := List.length_eq_one_iff.1 (beq_iff_eq.1 h)
  rw [hx] at hm
  have h1 : c' = x := by simpa using hm
  rw [← List.head?_filter, hx]
  simp [h1]
theorem loopRd_out {E : Env} {f id : Nat} {fn : Func} {c c' : Code} (hf : E.fn f = some fn) (hb : fn.body = some c) (hc : c' ∈ loopsOf c) (hi : firstRegion c' = id) : loopRd E f id = false := by
  unfold loopRd
  rw [hf]
  simp only [hb]
  have : (loopsOf c).any (fun c' => firstRegion c' == id) = true := List.any_eq_true.2 ⟨c', hc, by simpa using hi⟩
  rw [this]; rfl
theorem loopRd_in {E : Env} {f id : Nat} (h : oneLoop E f id = true) {fn : Func} {c c' : Code} (hf : E.fn f = some fn) (hb : fn.body = some c) (hc : c' ∈ loopsIn c) (hi : firstRegion c' = id) : loopRd E f id = true := by
  unfold oneLoop at h
  unfold loopRd
  rw [hf] at h ⊢
  simp only [hb] at h ⊢
  cases ha : (loopsOf c).any (fun c' => firstRegion c' == id) with
  | false => rfl
  | true =>
    obtain ⟨y, hy, hyi⟩ := List.any_eq_true.1 ha
    rw [List.filter_append, List.length_append] at h
    have h1 : 0 < ((loopsOf c).filter fun c' => firstRegion c' == id).length := List.length_pos_iff.2 (List.ne_nil_of_mem (List.mem_filter.2 ⟨hy, hyi⟩))
    have h2 : 0 < ((loopsIn c).filter fun c' => firstRegion c' == id).length := List.length_pos_iff.2 (List.ne_nil_of_mem (List.mem_filter.2 ⟨hc, by simpa using hi⟩))
    simp at h
    omega
theorem AllOk.nil {E : Env} : AllOk E (tblOf []) := fun f fn c n base _ _ => ⟨fun c' _ s hs => by simp [tblOf] at hs, fun _ _ => ⟨fun c' _ s hs => by simp [tblOf] at hs, fun c' _ s hs => by simp [tblOf] at hs⟩⟩
theorem AllOk.add {E : Env} {l : List Ent} (h : AllOk E (tblOf l)) (e : Ent) (h1 : oneLoop E e.f e.id = true) (hs : SumOk (loopRd E e.f e.id) E (call E e.n) e.f e.base (loopAt E e.f e.id) e.s) : AllOk E (tblOf (e :: l)) := by
  intro f fn c n base hf hb
  obtain ⟨h0, h0'⟩ := h f fn c n base hf hb
  have key : ∀ (rd : Bool) (c' : Code), (c' ∈ loopsOf c ++ loopsIn c) → (∀ id, e.f = f → oneLoop E f id = true → firstRegion c' = id → loopRd E f id = rd) → (∀ s, tblOf l f n base (firstRegion c') = some s → SumOk rd E (call E n) f base c' s) →
      ∀ s, tblOf (e :: l) f n base (firstRegion c') = some s → SumOk rd E (call E n) f base c' s := by
    intro rd c' hc hrd hk s h2
    simp only [tblOf, List.find?_cons] at h2
    cases hm : (e.f == f && e.n == n && e.base == base && e.id == firstRegion c') with
    | true =>
      rw [hm] at h2
      simp only [Bool.and_eq_true, beq_iff_eq] at hm
      obtain ⟨⟨⟨rfl, rfl⟩, rfl⟩, hid⟩ := hm
      simp only [Option.some.injEq] at h2
      subst h2
      rw [hrd e.id rfl h1 hid.symm] at hs
      rw [loopAt_ok h1 hf hb hc hid.symm]
      exact hs
    | false =>
      rw [hm] at h2
      exact hk s h2
  refine ⟨fun c' hc s h2 => key false c' (List.mem_append_left _ hc) (fun id _ _ hi => loopRd_out hf hb hc hi) (h0 c' hc) s h2, fun x hx => ?_⟩
  have hin : ∀ c', c' ∈ loopsOf x.2.2.1 ++ loopsOf x.2.2.2 → c' ∈ loopsIn c := fun c' hc => List.mem_flatten.2 ⟨_, List.mem_map.2 ⟨x, hx, rfl⟩, hc⟩
  obtain ⟨k1, k2⟩ := h0' x hx
  exact ⟨fun c' hc s h2 => key true c' (List.mem_append_right _ (hin c' (List.mem_append_left _ hc))) (fun id _ ho hi => loopRd_in ho hf hb (hin c' (List.mem_append_left _ hc)) hi) (k1 c' hc) s h2,
    fun c' hc s h2 => key true c' (List.mem_append_right _ (hin c' (List.mem_append_right _ hc))) (fun id _ ho hi => loopRd_in ho hf hb (hin c' (List.mem_append_right _ hc)) hi) (k2 c' hc) s h2⟩
theorem loopsOf_trans : ∀ (c : Code) (c' c'' : Code), c' ∈ loopsOf c → c'' ∈ loopsOf c' → c'' ∈ loopsOf c
  | .seq a b, c', c'', h, k => by
    simp only [loopsOf, List.mem_append] at h ⊢
    rcases h with h | h
    · exact .inl (loopsOf_trans a c' c'' h k)
    · exact .inr (loopsOf_trans b c' c'' h k)
  | .cond _ a b, c', c'', h, k => by
    simp only [loopsOf, List.mem_append] at h ⊢
    rcases h with h | h
    · exact .inl (loopsOf_trans a c' c'' h k)
    · exact .inr (loopsOf_trans b c' c'' h k)
  | .block _ c, c', c'', h, k => by
    simp only [loopsOf] at h ⊢
    exact loopsOf_trans c c' c'' h k
  | .loop c, c', c'', h, k => by
    simp only [loopsOf, List.mem_cons] at h ⊢
    rcases h with rfl | h
    · exact .inr k
    · exact .inr (loopsOf_trans c c' c'' h k)
  | .skip, _, _, h, _ => by simp [loopsOf] at h
  | .region .., _, _, h, _ => by simp [loopsOf] at h
  | .ret, _, _, h, _ => by simp [loopsOf] at h
  | .exit _, _, _, h, _ => by simp [loopsOf] at h
  | .label _, _, _, h, _ => by simp [loopsOf] at h
  | .scope _, _, _, h, _ => by simp [loopsOf] at h
  | .rangeFunc .., _, _, h, _ => by simp [loopsOf] at h
  | .goto _, _, _, h, _ => by simp [loopsOf] at h
  | .refuse _, _, _, h, _ => by simp [loopsOf] at h
theorem loopAt_mem {E : Env} {f id : Nat} (h : oneLoop E f id = true) : ∃ fn c, E.fn f = some fn ∧ fn.body = some c ∧ loopAt E f id ∈ loopsOf c ++ loopsIn c ∧ firstRegion (loopAt E f id) = id := by
  unfold oneLoop at h
  unfold loopAt
  split at h
  · rename_i fn hf
    split at h
    · rename_i c hb
      refine ⟨fn, c, hf, hb, ?_⟩
      obtain ⟨x, hx⟩ := List.length_eq_one_iff.1 (beq_iff_eq.1 h)
      rw [← List.head?_filter, hx]
      have hm : x ∈ (loopsOf c ++ loopsIn c).filter fun c' => firstRegion c' == id := by rw [hx]; simp
      rw [List.mem_filter] at hm
      exact ⟨hm.1, by simpa using hm.2⟩
    · simp at h
  · simp at h
def loopM {R : Type} (head : List V → List AObj → Option (List V × List AObj)) (body : List V → List AObj → (AExit → List V → List AObj → Option R) → Option R) :
    Nat → List V → List AObj → (AExit → List V → List AObj → Option R) → Option R
  | 0, regs, H, k => body regs H fun e r h => match e with
    | .normal => none
    | .ret => k .ret r h
    | .exit id => k (.exit id) r h
  | n + 1, regs, H, k => body regs H fun e r h => match e with
    | .normal => match head r h with | some p => loopM head body n p.1 p.2 k | none => none
    | .ret => k .ret r h
    | .exit id => k (.exit id) r h
theorem loopN_eq {R : Type} {head : List V → List AObj → Option (List V × List AObj)} {body : List V → List AObj → (AExit → List V → List AObj → Option R) → Option R} {k : AExit → List V → List AObj → Option R} :
    ∀ (n : Nat) (regs : List V) (H : List AObj), loopN head body (n + 1) regs H k = match head regs H with | some p => loopM head body n p.1 p.2 k | none => none
  | 0, regs, H => by
    simp only [loopN, loopM]
    cases head regs H <;> rfl
  | n + 1, regs, H => by
    rw [loopN]
    cases head regs H with
    | none => rfl
    | some p =>
      simp only [loopM]
      congr 1
      funext e r h
      cases e with
      | normal => exact loopN_eq n r h
      | _ => rfl
theorem loop_core {E : Env} {T : Tbl} (hT : AllOk E T) {M f n base id n0 : Nat} (h1 : oneLoop E f id = true) (hM : E.fuel = M + 1) {regs : List V} {H : List AObj} {tg : List (Nat × Nat)} {k : Kont} {r : D} (hl : H.length = n0)
    (hh : headSt base (E.hint f id).live tg n0 (keep (E.hint f id).live 0 regs) H = some (keep (E.hint f id).live 0 regs, H))
    (h : loopM (headSt base (E.hint f id).live tg n0) (fun r h k' => evT (loopRd E f id) E (callS E T n) f (T f n base) (loopAt E f id) r h (cutK (E.hint f id).out k')) M (keep (E.hint f id).live 0 regs) H k = some r) :
    loopN (headSt base (E.hint f (firstRegion (loopAt E f id))).live tg H.length) (fun r h k' => ev (loopRd E f id) E (call E n) f base (loopAt E f id) r h (cutK (E.hint f (firstRegion (loopAt E f id))).out k')) E.fuel regs H k = some r := by
  obtain ⟨fn, cf, hf, hb, hin, hid⟩ := loopAt_mem h1
  have hTl : TblOk (loopRd E f id) E (call E n) f base (T f n base) (loopAt E f id) := by
    obtain ⟨t1, t2⟩ := hT f fn cf n base hf hb
    rcases List.mem_append.1 hin with hin | hin
    · rw [loopRd_out hf hb hin hid]
      exact fun c' hc => t1 c' (loopsOf_trans cf _ _ hin hc)
    · rw [loopRd_in h1 hf hb hin hid]
      obtain ⟨l, hl, hil⟩ := List.mem_flatten.1 hin
      obtain ⟨x, hx, rfl⟩ := List.mem_map.1 hl
      obtain ⟨k1, k2⟩ := t2 x hx
      rcases List.mem_append.1 hil with hil | hil
      · exact fun c' hc => k1 c' (loopsOf_trans _ _ _ hil hc)
      · exact fun c' hc => k2 c' (loopsOf_trans _ _ _ hil hc)
  have k4 : loopN (headSt base (E.hint f id).live tg n0) (fun r h k' => evT (loopRd E f id) E (callS E T n) f (T f n base) (loopAt E f id) r h (cutK (E.hint f id).out k')) (M + 1) (keep (E.hint f id).live 0 regs) H k = some r := by
    rw [loopN_eq, hh]
    exact h
  rw [loopN_keep] at k4
  rw [hid, hM, hl]
  exact loopN_le (fun r hh k k' hk => evT_le (callS_le hT n) (call_mono n) _ hTl r hh _ _ (cutK_le hk)) _ _ _ _ _ (fun _ _ _ => Le.refl _) r k4
def us : Nat → List V → List V
  | 0, l => l
  | n + 1, l => .undef :: us n l
def up : Nat → List PV → List PV
  | 0, l => l
  | n + 1, l => .undef :: up n l
def goS {S X : Type} (st : S → (S → Option D) → (X → Option D) → Option D) : Nat → S → (X → Option D) → Option D
  | 0, s, K => st s (fun _ => none) K
  | N + 1, s, K => st s (fun s' => goS st N s' K) K
def kontL (hd : List V → List AObj → Option (List V × List AObj)) (nx : List V → List AObj → Option D) (k : Kont) : Kont := fun e r h => match e with
  | .normal => match hd r h with | some p => nx p.1 p.2 | none => none
  | .ret => k .ret r h
  | .exit id => k (.exit id) r h
structure Shape (S : Type) where
  ps : List PV
  qs : List PO
  of : List Leaf → Option S
def pickS {S : Type} (tg0 : List (Nat × Nat)) (regs : List V) (H : List AObj) (tg : List (Nat × Nat)) : List (Shape S) → Option S
  | [] => none
  | p :: l => match takeSt p.ps p.qs tg0 regs H tg with
    | some ls => p.of ls
    | none => pickS tg0 regs H tg l
def noSum : Sum := fun _ _ _ _ => none
def sumJ {S X : Type} (live : List Nat) (sh : List (Shape S)) (tg0 : List (Nat × Nat)) (st : S → (S → Option D) → (X → Option D) → Option D) (ex : Kont → X → Option D) (M : Nat) (els : Sum) : Sum :=
  fun regs H tg k => match pickS tg0 (keep live 0 regs) H tg sh with
    | some s => goS st M s (ex k)
    | none => els regs H tg k
def ShapesOk {S : Type} (V0 : S → List V) (H0 : S → List AObj) : List (Shape S) → Prop
  | [] => True
  | p :: l => (∀ ls s, p.of ls = some s → (fillVs p.ps ls).1 = V0 s ∧ (fillOs p.qs (fillVs p.ps ls).2).1 = H0 s) ∧ ShapesOk V0 H0 l
theorem pickS_ok {S : Type} {V0 : S → List V} {H0 : S → List AObj} {tg0 : List (Nat × Nat)} {regs : List V} {H : List AObj} {tg : List (Nat × Nat)} {s : S} : ∀ {sh : List (Shape S)}, ShapesOk V0 H0 sh → pickS tg0 regs H tg sh = some s → tg = tg0 ∧ regs = V0 s ∧ H = H0 s
  | [], _, h => by simp [pickS] at h
  | p :: l, hs, h => by
    simp only [pickS] at h
    split at h
    · rename_i ls hls
      obtain ⟨rfl, h3, h4⟩ := takeSt_ok hls
      obtain ⟨k1, k2⟩ := hs.1 ls s h
      exact ⟨rfl, h3.trans k1, h4.trans k2⟩
    · exact pickS_ok hs.2 h
theorem noSum_ok {rd : Bool} {E : Env} {inl : Inl D} {f base : Nat} {c : Code} : SumOk rd E inl f base c noSum := fun _ _ _ _ _ h => by simp [noSum] at h
theorem oldSum_ok {E : Env} {T : Tbl} (hT : AllOk E T) {f n base id : Nat} {s : Sum} (h1 : oneLoop E f id = true) (h : T f n base id = some s) : SumOk (loopRd E f id) E (call E n) f base (loopAt E f id) s := by
  obtain ⟨fn, cf, hf, hb, hin, hid⟩ := loopAt_mem h1
  obtain ⟨t1, t2⟩ := hT f fn cf n base hf hb
  rw [← hid] at h
  rcases List.mem_append.1 hin with hin | hin
  · rw [loopRd_out hf hb hin hid]
    exact t1 _ hin s h
  · rw [loopRd_in h1 hf hb hin hid]
    obtain ⟨l, hl, hil⟩ := List.mem_flatten.1 hin
    obtain ⟨x, hx, rfl⟩ := List.mem_map.1 hl
    obtain ⟨k1, k2⟩ := t2 x hx
    rcases List.mem_append.1 hil with hil | hil
    · exact k1 _ hil s h
    · exact k2 _ hil s h
theorem sumOkJ {S X : Type} {E : Env} {T : Tbl} (hT : AllOk E T) {M f n base id n0 : Nat} {V0 : S → List V} {H0 : S → List AObj} {sh : List (Shape S)} {tg0 : List (Nat × Nat)} {st : S → (S → Option D) → (X → Option D) → Option D} {ex : Kont → X → Option D} {els : Sum}
    (h1 : oneLoop E f id = true) (hM : E.fuel = M + 1) (hsh : ShapesOk V0 H0 sh) (hlen : ∀ s, (H0 s).length = n0) (hhead : ∀ s, headSt base (E.hint f id).live tg0 n0 (V0 s) (H0 s) = some (V0 s, H0 s))
    (hst : ∀ s nx k, evT (loopRd E f id) E (callS E T n) f (T f n base) (loopAt E f id) (V0 s) (H0 s) (cutK (E.hint f id).out (kontL (headSt base (E.hint f id).live tg0 n0) nx k)) = st s (fun s' => nx (V0 s') (H0 s')) (ex k))
    (hels : SumOk (loopRd E f id) E (call E n) f base (loopAt E f id) els) :
    SumOk (loopRd E f id) E (call E n) f base (loopAt E f id) (sumJ (E.hint f id).live sh tg0 st ex M els) := by
  intro regs H tg k r hr
  unfold sumJ at hr
  split at hr
  · rename_i s hs
    obtain ⟨rfl, h3, h4⟩ := pickS_ok hsh hs
    have key : ∀ N s, loopM (headSt base (E.hint f id).live tg n0) (fun r h k' => evT (loopRd E f id) E (callS E T n) f (T f n base) (loopAt E f id) r h (cutK (E.hint f id).out k')) N (V0 s) (H0 s) k = goS st N s (ex k) := by
      intro N
      induction N with
      | zero =>
        intro s
        have h := hst s (fun _ _ => none) k
        simp only [goS]
        rw [← h]
        simp only [loopM]
        congr 1
        funext e r h
        unfold kontL
        cases e with
        | normal => simp only [cutK]; split <;> rfl
        | ret => rfl
        | exit id => rfl
      | succ N ih =>
        intro s
        have h := hst s (fun r h => loopM (headSt base (E.hint f id).live tg n0) (fun r h k' => evT (loopRd E f id) E (callS E T n) f (T f n base) (loopAt E f id) r h (cutK (E.hint f id).out k')) N r h k) k
        simp only [goS]
        rw [show (fun s' => goS st N s' (ex k)) = fun s' => loopM (headSt base (E.hint f id).live tg n0) (fun r h k' => evT (loopRd E f id) E (callS E T n) f (T f n base) (loopAt E f id) r h (cutK (E.hint f id).out k')) N (V0 s') (H0 s') k from funext fun s' => (ih s').symm]
        rw [← h]
        simp only [loopM]
        rfl
    refine loop_core hT h1 hM (n0 := n0) (by rw [h4]; exact hlen s) (by rw [h3, h4]; exact hhead s) ?_
    rw [h3, h4, key]
    exact hr
  · exact hels regs H tg k r hr
theorem AllOk.addJ {S X : Type} {E : Env} {l : List Ent} (hT : AllOk E (tblOf l)) {M f n base id n0 : Nat} {live : List Nat} (V0 : S → List V) (H0 : S → List AObj) {sh : List (Shape S)} {tg0 : List (Nat × Nat)} {st : S → (S → Option D) → (X → Option D) → Option D} {ex : Kont → X → Option D} {els : Sum}
    (h1 : (oneLoop E f id && (E.hint f id).live == live) = true) (hM : E.fuel = M + 1) (hels : els = noSum ∨ tblOf l f n base id = some els) (hsh : ShapesOk V0 H0 sh) (hlen : ∀ s, (H0 s).length = n0) (hhead : ∀ s, headSt base (E.hint f id).live tg0 n0 (V0 s) (H0 s) = some (V0 s, H0 s))
    (hst : ∀ s nx k, evT (loopRd E f id) E (callS E (tblOf l) n) f (tblOf l f n base) (loopAt E f id) (V0 s) (H0 s) (cutK (E.hint f id).out (kontL (headSt base (E.hint f id).live tg0 n0) nx k)) = st s (fun s' => nx (V0 s') (H0 s')) (ex k)) :
    AllOk E (tblOf (⟨f, n, base, id, sumJ live sh tg0 st ex M els⟩ :: l)) := by
  simp only [Bool.and_eq_true, beq_iff_eq] at h1
  obtain ⟨h1, rfl⟩ := h1
  refine hT.add ⟨f, n, base, id, sumJ (E.hint f id).live sh tg0 st ex M els⟩ h1 (sumOkJ hT h1 hM hsh hlen hhead hst ?_)
  rcases hels with rfl | h
  · exact noSum_ok
  · exact oldSum_ok hT h1 h
def sumS {S X : Type} (live : List Nat) (ps : List PV) (qs : List PO) (tg0 : List (Nat × Nat)) (of : List Leaf → Option S) (st : S → (S → Option D) → (X → Option D) → Option D) (ex : Kont → X → Option D) (M : Nat) : Sum :=
  sumJ live [⟨ps, qs, of⟩] tg0 st ex M noSum
theorem AllOk.addS {S X : Type} {E : Env} {l : List Ent} (hT : AllOk E (tblOf l)) {M f n base id n0 : Nat} {live : List Nat} {ps : List PV} {qs : List PO} {tg0 : List (Nat × Nat)} {of : List Leaf → Option S} {lv : S → List Leaf} {st : S → (S → Option D) → (X → Option D) → Option D} {ex : Kont → X → Option D}
    (h1 : (oneLoop E f id && (E.hint f id).live == live) = true) (hM : E.fuel = M + 1) (hof : ∀ ls s, of ls = some s → ls = lv s)
    (hlen : ∀ s, (fillOs qs (fillVs ps (lv s)).2).1.length = n0)
    (hhead : ∀ s, headSt base (E.hint f id).live tg0 n0 (fillVs ps (lv s)).1 (fillOs qs (fillVs ps (lv s)).2).1 = some ((fillVs ps (lv s)).1, (fillOs qs (fillVs ps (lv s)).2).1))
    (hst : ∀ s nx k, evT (loopRd E f id) E (callS E (tblOf l) n) f (tblOf l f n base) (loopAt E f id) (fillVs ps (lv s)).1 (fillOs qs (fillVs ps (lv s)).2).1 (cutK (E.hint f id).out (kontL (headSt base (E.hint f id).live tg0 n0) nx k)) = st s (fun s' => nx (fillVs ps (lv s')).1 (fillOs qs (fillVs ps (lv s')).2).1) (ex k)) :
    AllOk E (tblOf (⟨f, n, base, id, sumS live ps qs tg0 of st ex M⟩ :: l)) :=
  AllOk.addJ hT (fun s => (fillVs ps (lv s)).1) (fun s => (fillOs qs (fillVs ps (lv s)).2).1) (sh := [⟨ps, qs, of⟩]) h1 hM (.inl rfl) ⟨fun ls s h => by rw [hof ls s h]; exact ⟨rfl, rfl⟩, trivial⟩ hlen hhead hst
end Go.AM
namespace Go.AM
open Go
def nI (n : Nat) : Int := n
def ltI (a b : Int) : Bool := decide (a < b)
def leI (a b : Int) : Bool := decide (a ≤ b)
def gtI (a b : Int) : Bool := decide (a > b)
def geI (a b : Int) : Bool := decide (a ≥ b)
def eqI (a b : Int) : Bool := a == b
def neI (a b : Int) : Bool := a != b
def inb (i : Int) (n : Nat) : Bool := decide (0 ≤ i) && decide (i < (n : Int))
def leN (a b : Nat) : Bool := decide (a ≤ b)
def eqN (a b : Nat) : Bool := decide (a = b)
def mx (n : Nat) : Bool := decide (n ≤ maxLen)
def ix (l : List D) (n : Nat) : D := l.getD n .nilFunc
def ap (a b : List D) : List D := a ++ b
def rp (n : Nat) (d : D) : List D := List.replicate n d
def ad (k : IntKind) (a b : Int) : Int := k.wrap (a + b)
def sb (k : IntKind) (a b : Int) : Int := k.wrap (a - b)
def ml (k : IntKind) (a b : Int) : Int := k.wrap (a * b)
def cv (k : IntKind) (a : Int) : Int := k.wrap a
def shlI (k : IntKind) (a : Int) (n : Nat) : Int := k.wrap (a * 2 ^ (min n k.bits))
def shrI (k : IntKind) (a : Int) (n : Nat) : Int := a.fdiv (2 ^ (min n k.bits))
def andI (k : IntKind) (a b : Int) : Int := k.wrap (BitVec.ofInt k.bits a &&& BitVec.ofInt k.bits b).toNat
def orI (k : IntKind) (a b : Int) : Int := k.wrap (BitVec.ofInt k.bits a ||| BitVec.ofInt k.bits b).toNat
def xorI (k : IntKind) (a b : Int) : Int := k.wrap (BitVec.ofInt k.bits a ^^^ BitVec.ofInt k.bits b).toNat
def andNotI (k : IntKind) (a b : Int) : Int := k.wrap (BitVec.ofInt k.bits a &&& ~~~(BitVec.ofInt k.bits b)).toNat
def notI (k : IntKind) (a : Int) : Int := k.wrap (BitVec.ofInt k.bits (if k.signed then -1 else k.max) ^^^ BitVec.ofInt k.bits a).toNat
def maxi (a b : Int) : Int := if b > a then b else a
def mini (a b : Int) : Int := if b < a then b else a
def quoI (k : IntKind) (a b : Int) : Int := k.wrap (a.tdiv b)
def remI (a b : Int) : Int := a.tmod b
def eqS (a b : ByteArray) : Bool := a.toList == b.toList
def ltS (a b : ByteArray) : Bool := Op.bytesLess a.toList b.toList
def cat (a b : ByteArray) : Option D := if a.size + b.size ≤ maxInt then some (.str (a ++ b)) else none
def bs (l : List UInt8) : ByteArray := ⟨l.toArray⟩
def bd (o : Option D) (f : D → Option D) : Option D := match o with | some r => f r | none => none
def bdB (x : D) (f : Bool → Option D) : Option D := match x with | .bool b => f b | _ => none
def bdq (o : Option (Option Nat)) (f : Option Nat → Option D) : Option D := match o with | some r => f r | none => none
abbrev di (x : Int) : D := .int .i64 x
abbrev db (x : Bool) : D := .bool x
abbrev dS (x : ByteArray) : D := .str x
abbrev da (l : List D) : D := .agg l
abbrev dl (b : Bool) (l : List D) : D := .slice b l
abbrev vi (x : Int) : V := .d (.int .i64) (.int .i64 x)
abbrev vb (x : Bool) : V := .d .bool (.bool x)
abbrev vS (x : ByteArray) : V := .d .str (.str x)
abbrev vk (k : K) (x : D) : V := .d k x
abbrev v0 : V := .tup []
end Go.AM
namespace Go.AM
open Go Go.RowKit
def K.flat (ty : Nat → K) : Nat → K → Bool
  | _, .bool => true
  | _, .int _ => true
  | _, .str => true
  | _, .func => true
  | n + 1, .struct fs => fs.all fun f => K.flat ty n (ty f)
  | n + 1, .array _ e => K.flat ty n (ty e)
  | _, _ => false
section
variable {ty : Nat → K}
mutual
theorem has_flat : ∀ (d : D) (n : Nat) (κ : K), D.has ty d κ → K.flat ty n κ = true → d.noMem = true
  | .bool _, _, _, _, _ => rfl
  | .int _ _, _, _, _, _ => rfl
  | .str _, _, _, _, _ => rfl
  | .agg ds, n, κ, h, hf => by
    simp only [D.has] at h
    simp only [D.noMem]
    obtain ⟨h1, h2⟩ := h
    cases κ <;> simp [K.isAgg] at h1
    · cases n with
      | zero => simp [K.flat] at hf
      | succ n =>
        simp only [K.flat, List.all_eq_true] at hf
        refine hass_flat ds n _ h2 fun κ hκ => ?_
        simp only [K.kids, List.mem_map] at hκ
        obtain ⟨f, hfm, rfl⟩ := hκ
        exact hf f hfm
    · cases n with
      | zero => simp [K.flat] at hf
      | succ n =>
        simp only [K.flat] at hf
        refine hass_flat ds n _ h2 fun κ hκ => ?_
        simp only [K.kids] at hκ
        rw [List.eq_of_mem_replicate hκ]
        exact hf
  | .slice nn ds, n, κ, h, hf => by
    simp only [D.has] at h
    obtain ⟨e, rfl, _⟩ := h
    cases n <;> simp [K.flat] at hf
  | .iface t x, n, κ, h, hf => by
    simp only [D.has] at h
    obtain ⟨⟨m, rfl⟩, _⟩ := h
    cases n <;> simp [K.flat] at hf
  | .nilIface, _, _, _, _ => rfl
  | .fn _, _, _, _, _ => rfl
  | .nilFunc, _, _, _, _ => rfl
  | .nilPtr, _, _, _, _ => rfl
  | .nilMap, _, _, _, _ => rfl
  | .tup _, _, _, h, _ => by simp [D.has] at h
theorem hass_flat : ∀ (ds : List D) (n : Nat) (κs : List K), D.hass ty ds κs → (∀ κ ∈ κs, K.flat ty n κ = true) → D.noMems ds = true
  | [], _, _, _, _ => rfl
  | d :: ds, n, κs, h, hf => by
    simp only [D.hass] at h
    obtain ⟨κ, κs', rfl, h1, h2⟩ := h
    simp only [D.noMems, Bool.and_eq_true]
    exact ⟨has_flat d n κ h1 (hf κ (by simp)), hass_flat ds n κs' h2 fun κ hκ => hf κ (by simp [hκ])⟩
end
theorem res_flat {M : Mem} {ts : List Nat} {r : D} {v : Value} {n : Nat} (h : ResRep ty M ts r v) (hf : ts.all (fun t => K.flat ty n (ty t)) = true) : r.noMem = true := by
  rw [List.all_eq_true] at hf
  unfold ResRep at h
  split at h
  · rename_i t
    exact has_flat r n _ (rep_has _ _ _ h) (hf t (by simp))
  · obtain ⟨ds, xs, rfl, _, hE⟩ := h
    simp only [D.noMem]
    refine hass_flat ds n _ (each_has _ _ _ hE) fun κ hκ => ?_
    simp only [List.mem_map] at hκ
    obtain ⟨t, ht, rfl⟩ := hκ
    exact hf t ht
variable {P : Program} {I : World → Prop} {gl : Nat}
theorem contract_flat (hgl : ∀ w, I w → gl ≤ w.heap.size) {f : Nat} {fn : Func} {run : List D → Option D} {n : Nat} {p : Bool}
    (hp : p = true → fn.resultTypes.toList.all (fun t => K.flat ty n (ty t)) = true)
    (hrun : ∀ ds r, D.hass ty ds (fn.params.toList.map ty) → run ds = some r → Comes P ty I gl f fn ds r finish) : Contract P ty I f fn { run := run, fresh := false, plain := p } := by
  have h0 : Contract P ty I f fn { run := run, fresh := false, plain := false } := contract_of hgl rfl hrun (by simp)
  intro X w ds xs r hIw hX hE hr
  refine (h0 X w ds xs r hIw hX hE hr).mono ?_
  rintro e w' ⟨v, rfl, hb, hres⟩
  refine ⟨v, rfl, hb, ?_⟩
  simp only [Bool.false_eq_true, if_false] at hres ⊢
  cases p with
  | false => simpa using hres
  | true =>
    simp only [if_true]
    exact fun M => noMem_res (res_flat hres (hp rfl)) hres
theorem has_int {d : D} {k : IntKind} (h : D.has ty d (.int k)) : ∃ n, d = .int k n := by
  cases d <;> simp [D.has, K.isAgg] at h
  subst h; exact ⟨_, rfl⟩
theorem has_bool {d : D} (h : D.has ty d .bool) : ∃ n, d = .bool n := by cases d <;> simp [D.has, K.isAgg] at h; exact ⟨_, rfl⟩
theorem has_str {d : D} (h : D.has ty d .str) : ∃ n, d = .str n := by cases d <;> simp [D.has, K.isAgg] at h; exact ⟨_, rfl⟩
theorem hass_nil {ds : List D} (h : D.hass ty ds []) : ds = [] := by cases ds <;> simp [D.hass] at h; rfl
theorem hass_cons {ds : List D} {κ : K} {κs : List K} (h : D.hass ty ds (κ :: κs)) : ∃ d ds', ds = d :: ds' ∧ D.has ty d κ ∧ D.hass ty ds' κs := by
  cases ds with
  | nil => simp [D.hass] at h
  | cons d ds =>
    simp only [D.hass] at h
    obtain ⟨κ', κs', hc, h1, h2⟩ := h
    simp only [List.cons.injEq] at hc
    obtain ⟨rfl, rfl⟩ := hc
    exact ⟨d, ds, rfl, h1, h2⟩
abbrev ArgT : K → Type
  | .str => ByteArray
  | .int _ => Int
  | .bool => Bool
  | _ => D
def argD : (κ : K) → ArgT κ → D
  | .str, x => .str x
  | .int k, x => .int k x
  | .bool, x => .bool x
  | .struct _, x => x
  | .array _ _, x => x
  | .slice _, x => x
  | .map _ _, x => x
  | .iface _, x => x
  | .ptr _, x => x
  | .func, x => x
  | .bad, x => x
def Args : List K → Type
  | [] => Unit
  | κ :: κs => ArgT κ × Args κs
def Args.ds : (κs : List K) → Args κs → List D
  | [], _ => []
  | κ :: κs, a => argD κ a.1 :: Args.ds κs a.2
theorem has_argD {d : D} : ∀ {κ : K}, D.has ty d κ → ∃ a : ArgT κ, d = argD κ a
  | .str, h => has_str h
  | .int _, h => has_int h
  | .bool, h => has_bool h
  | .struct _, _ => ⟨d, rfl⟩
  | .array _ _, _ => ⟨d, rfl⟩
  | .slice _, _ => ⟨d, rfl⟩
  | .map _ _, _ => ⟨d, rfl⟩
  | .iface _, _ => ⟨d, rfl⟩
  | .ptr _, _ => ⟨d, rfl⟩
  | .func, _ => ⟨d, rfl⟩
  | .bad, _ => ⟨d, rfl⟩
theorem hass_args : ∀ {κs : List K} {ds : List D}, D.hass ty ds κs → ∃ a : Args κs, ds = Args.ds κs a
  | [], _, h => ⟨(), hass_nil h⟩
  | κ :: κs, _, h => by
    obtain ⟨d, ds', rfl, h1, h2⟩ := hass_cons h
    obtain ⟨a, rfl⟩ := has_argD h1
    obtain ⟨b, rfl⟩ := hass_args h2
    exact ⟨(a, b), rfl⟩
theorem okC (hgl : ∀ w, I w → gl ≤ w.heap.size) {E : Env} {T : Tbl} {f n dp : Nat} {fn : Func} {run : List D → Option D} {p : Bool} {κs : List K} {ts : List Nat}
    (hs : fn.params.toList.map ty = κs) (hr : fn.resultTypes.toList = ts) (hp : (!p || ts.all fun t => K.flat ty n (ty t)) = true) (hE : EnvOk P E I gl) (hty : E.ty = ty) (hT : AllOk E T)
    (h : ∀ a : Args κs, callS E T dp (.fn f) (List.zipWith V.d κs (Args.ds κs a)) [] (fun v H => finish ty ts v H) = run (Args.ds κs a)) : Contract P ty I f fn { run := run, plain := p } := by
  subst hs hr
  refine contract_flat (n := n) hgl (fun h' => by subst h'; simpa using hp) (fun ds r hh hr => ?_)
  obtain ⟨a, rfl⟩ := hass_args hh
  exact ⟨E, dp, T, hE, hty, hT, (h a).trans hr⟩
theorem okF (hgl : ∀ w, I w → gl ≤ w.heap.size) {E : Env} {T : Tbl} {f dp : Nat} {fn : Func} {run : List D → Option D} {κs : List K} {ts : List Nat}
    (hs : fn.params.toList.map ty = κs) (hr : fn.resultTypes.toList = ts) (hE : EnvOk P E I gl) (hty : E.ty = ty) (hT : AllOk E T)
    (h : ∀ a : Args κs, callS E T dp (.fn f) (List.zipWith V.d κs (Args.ds κs a)) [] (fun v H => finishFresh ty ts v H) = run (Args.ds κs a)) : Contract P ty I f fn { run := run, fresh := true } := by
  subst hs hr
  refine contract_of_fresh hgl rfl rfl (fun ds r hh hr => ?_)
  obtain ⟨a, rfl⟩ := hass_args hh
  exact ⟨E, dp, T, hE, hty, hT, (h a).trans hr⟩
end
end Go.AM
namespace Go.Proofs
open Go Go.Shelf Go.RowKit
variable {P : Program} {ρ : Ren}
set_option maxHeartbeats 1000000 in
set_option maxRecDepth 100000 in
theorem copyCheck_fresh (L : Lays.n240 P ρ) (X : Builder.X72 P ρ) (b T : Nat) (w : World) (h0 : w.cell? ⟨b, 0, none⟩ = some (.pointer none)) (hsh : w.shape? b = some (T, 2)) (hl : liesAt P P.depth T (2 / P.cellsOf T) 0 (ρ.t 72) 1 = true) (hfz : w.frozen? ⟨b, 0, none⟩ = false) :
    Calls P (ρ.f 240) #[.pointer (some ⟨b, 0, none⟩)] w fun e w' => e = .returned (.tuple #[]) ∧ w' = w.setCell ⟨b, 0, none⟩ (.pointer (some ⟨b, 0, none⟩)) := by
  obtain ⟨j, hj, hjs⟩ := Option.map_eq_some_iff.1 X.sizeBuilder
  have mixed := L.mixed
  have t72 := L.t72; have a72 := L.a72; have z72 := L.z72; have v72 := L.v72; have u72 := run_underlying L.t72
  have t70 := L.t70; have a70 := L.a70; have z70 := L.z70; have v70 := L.v70; have u70 := run_underlying L.t70
  have t9 := L.t9; have a9 := L.a9; have z9 := L.z9; have v9 := L.v9; have u9 := run_underlying L.t9
  have t4 := L.t4; have a4 := L.a4; have z4 := L.z4; have v4 := L.v4; have u4 := run_underlying L.t4
  have t164 := L.t164; have a164 := L.a164; have z164 := L.z164; have v164 := L.v164; have u164 := run_underlying L.t164
  go_enter L.f240, Body.n240_ntmps ρ
  go_wp2
  rw [Lib.run_to_unsafe w ⟨b, 0, none⟩ L.t70 L.t164 hj (by rw [hjs]; decide) hsh (Nat.zero_lt_succ 1)]
  simp only [Result.andThen]
  rw [Oper.upon_value]
  go_wp2
  rw [run_callFunc_extern L.f276 (by kernel_rfl) (by kernel_rfl) (by kernel_rfl) (e := Extern.AbiNoEscape.same) (by kernel_rfl)]
  rw [Lib.run_noEscape]
  simp only [Result.andThen]
  rw [Oper.upon_value]
  go_wp2
  rw [Lib.run_from_unsafe w ⟨b, 0, none⟩ L.t164 L.t70 hj hsh hl]
  simp only [Result.andThen]
  rw [Oper.upon_value]
  go_wp2
  go_end0
  exact ⟨rfl, rfl⟩
theorem run_loadInts (w : World) : ∀ (l : List Int) (g off : Nat) (acc : ByteArray), (∀ j x, l[j]? = some x → w.cell? ⟨g, off + j, none⟩ = some (.int .u8 x)) →
    (loadBytes ⟨g, off, none⟩ acc l.length).run P w = .ok ⟨acc.data ++ (l.map fun z => z.toNat.toUInt8).toArray⟩ w
  | [], g, off, acc, _ => by simp [loadBytes]
  | x :: l, g, off, acc, h => by
    have h0 : w.cell? ⟨g, off, none⟩ = some (.int .u8 x) := by
      have := h 0 x rfl
      simpa using this
    have ih := run_loadInts w l g (off + 1) (acc.push x.toNat.toUInt8) (fun j y hy => by
      have := h (j + 1) y (by simpa using hy)
      rw [show off + 1 + j = off + (j + 1) by omega]; exact this)
    have ha : (⟨g, off, none⟩ : Addr).add 1 = ⟨g, off + 1, none⟩ := by simp [Addr.add]
    simp only [List.length_cons, loadBytes, Sem.run_bind, run_load, h0, Result.andThen, ha]
    rw [ih]
    congr 1
    apply ByteArray.ext
    simp [ByteArray.push]
set_option maxHeartbeats 2000000 in
set_option maxRecDepth 100000 in
theorem bld_String (L : Lays.n169 P ρ) (X : Builder.Extra P ρ) (b g off cap T et cells : Nat) (p : Value) (l : List Int) (w : World) (hbk : w.heap[b]? = some (.cells #[p, .slice (some ⟨g, off, none⟩) l.length cap] T (0, 0))) (hcap : cap ≠ 0) (h0 : l ≠ [])
    (hsh : w.shape? g = some (et, cells)) (hlies : liesAt P P.depth et (cells / P.cellsOf et) off (ρ.t 5) l.length = true) (h63 : l.length ≤ 9223372036854775807) (hcell : ∀ j x, l[j]? = some x → w.cell? ⟨g, off + j, none⟩ = some (.int .u8 x)) :
    Calls P (ρ.f 169) #[.pointer (some ⟨b, 0, none⟩)] w fun e w' => e = .returned (.string ⟨(l.map fun z => z.toNat.toUInt8).toArray⟩) ∧ w' = w.drew.freeze ⟨g, off, none⟩ l.length := by
  have c1 : w.drew.cell? ⟨b, 1, none⟩ = some (.slice (some ⟨g, off, none⟩) l.length cap) := by
    have : w.drew.heap[b]? = some (.cells #[p, .slice (some ⟨g, off, none⟩) l.length cap] T (0, 0)) := hbk
    rw [Lib.cell_of_heap this]; rfl
  have hSD : (Builtin.unsafeSliceData_ #[(ρ.t 37)] (ρ.t 127) #[.slice (some ⟨g, off, none⟩) l.length cap]).run P w.drew = .ok (.pointer (some ⟨g, off, none⟩)) w.drew :=
    Lib.run_unsafeSliceData_row _ _ _ _ _ _ hcap
  have hUS : (Builtin.unsafeString_ #[(ρ.t 127), (ρ.t 3)] (ρ.t 9) #[.pointer (some ⟨g, off, none⟩), .int .i64 l.length]).run P w.drew = .ok (.string ⟨(l.map fun z => z.toNat.toUInt8).toArray⟩) (w.drew.freeze ⟨g, off, none⟩ l.length) := by
    have hl : l.length ≠ 0 := by simpa using h0
    have hlb := run_loadInts (P := P) w.drew l g off .empty hcell
    have h63' : ¬ (9223372036854775807 : Int) < (l.length : Int) := by omega
    have hdef : Builtin.unsafeString_ #[(ρ.t 127), (ρ.t 3)] (ρ.t 9) #[.pointer (some ⟨g, off, none⟩), .int .i64 l.length] =
        (do
          let n ← asInt (.int .i64 l.length)
          if n < 0 then runtimePanic (.error "unsafe.String: len out of range")
          if n > IntKind.i64.max then unsupported (.unsafePointer "String: a length above the largest int")
          if n = 0 then pure (.string .empty)
          else if ← variablesAt ⟨g, off, none⟩ (← elemOf (ρ.t 127)) n.toNat then do
            let s ← loadBytes ⟨g, off, none⟩ .empty n.toNat
            freeze ⟨g, off, none⟩ n.toNat
            pure (.string s)
          else unsupported (.unsafePointer "String: not so many bytes at ptr")) := rfl
    rw [hdef]
    have hmax : IntKind.i64.max = 9223372036854775807 := rfl
    have hneg : ¬ (l.length : Int) < 0 := by omega
    have hsh' : w.drew.shape? g = some (et, cells) := hsh
    simp [asInt, asIntOf, hmax, h63', hneg, hl, variablesAt, hsh', elemOf, run_underlying L.t127, hlies, hlb]
  have mixed := L.mixed
  have t72 := L.t72; have a72 := L.a72; have z72 := L.z72; have v72 := L.v72; have u72 := run_underlying L.t72
  have t70 := L.t70; have a70 := L.a70; have z70 := L.z70; have v70 := L.v70; have u70 := run_underlying L.t70
  have t37 := L.t37; have a37 := L.a37; have z37 := L.z37; have v37 := L.v37; have u37 := run_underlying L.t37
  have t127 := L.t127; have a127 := L.a127; have z127 := L.z127; have v127 := L.v127; have u127 := run_underlying L.t127
  have t3 := L.t3; have a3 := L.a3; have z3 := L.z3; have v3 := L.v3; have u3 := run_underlying L.t3
  have t9 := L.t9; have a9 := L.a9; have z9 := L.z9; have v9 := L.v9; have u9 := run_underlying L.t9
  have t5 := X.t5; have a5 := X.a5; have z5 := X.z5; have v5 := X.v5; have u5 := run_underlying X.t5
  go_enter L.f169, Body.n169_ntmps ρ
  go_wp2
  go_region_o
  all_goals (go_wp2; go_ret; exact ⟨rfl, rfl⟩)
set_option maxHeartbeats 2000000 in
set_option maxRecDepth 100000 in
theorem bld_String_nil (L : Lays.n169 P ρ) (X : Builder.Extra P ρ) (B b T : Nat) (p : Value) (w : World) (hbk : w.heap[b]? = some (.cells #[p, .slice none 0 0] T (0, 0))) :
    Calls P (ρ.f 169) #[.pointer (some ⟨b, 0, none⟩)] w fun e w' => e = .returned (.string ⟨#[]⟩) ∧ Below B w w' := by
  have hUS := Any.unsafeString_none L X
  have c1 : w.drew.cell? ⟨b, 1, none⟩ = some (.slice none 0 0) := by
    have : w.drew.heap[b]? = some (.cells #[p, .slice none 0 0] T (0, 0)) := hbk
    rw [Lib.cell_of_heap this]; rfl
  have hSD : (Builtin.unsafeSliceData_ #[(ρ.t 37)] (ρ.t 127) #[.slice none 0 0]).run P w.drew = .ok (.pointer none) w.drew := rfl
  have mixed := L.mixed
  have t72 := L.t72; have a72 := L.a72; have z72 := L.z72; have v72 := L.v72; have u72 := run_underlying L.t72
  have t70 := L.t70; have a70 := L.a70; have z70 := L.z70; have v70 := L.v70; have u70 := run_underlying L.t70
  have t37 := L.t37; have a37 := L.a37; have z37 := L.z37; have v37 := L.v37; have u37 := run_underlying L.t37
  have t127 := L.t127; have a127 := L.a127; have z127 := L.z127; have v127 := L.v127; have u127 := run_underlying L.t127
  have t3 := L.t3; have a3 := L.a3; have z3 := L.z3; have v3 := L.v3; have u3 := run_underlying L.t3
  have t9 := L.t9; have a9 := L.a9; have z9 := L.z9; have v9 := L.v9; have u9 := run_underlying L.t9
  have t5 := X.t5; have a5 := X.a5; have z5 := X.z5; have v5 := X.v5; have u5 := run_underlying X.t5
  go_enter L.f169, Body.n169_ntmps ρ
  go_wp2
  go_region_o
  all_goals (go_wp2; go_ret; exact ⟨rfl, Below.drew (Below.refl B w)⟩)
end Go.Proofs
namespace Go.AM
open Go Go.RowKit Go.Proofs Go.Sort
section
variable {P : Program} {ρ : Go.Shelf.Ren} {ty : Nat → K} {cd : Cd} {I : World → Prop} {gl : Nat}
def sortD (ds : List D) : List D := ((ds.map D.i).mergeSort fun x y => decide (x ≤ y)).map (D.int .i64)
def sortX (e : Nat) : Ext := fun args H => match args with
  | [.sref b off len] => match H[b]? with
    | some (.row e1 true nn ds) => some (decide (e1 = e) && decide (len ≤ maxLen), .tup [], H.set b (.row e1 true nn (ds.take off ++ sortD ((ds.drop off).take len) ++ ds.drop (off + len))))
    | _ => none
  | [.d (.slice _) (.slice _ [])] => some (true, .tup [], H)
  | _ => none
theorem reps_ints {M : Mem} {k : IntKind} {e : Nat} (he : ty e = .int k) : ∀ (ds : List D) (cs : List Value), Reps ty M ds (List.replicate ds.length (ty e)) cs → ds = (ds.map D.i).map (D.int k) ∧ cs = (ds.map D.i).map (Value.int k)
  | [], cs, h => by simp only [List.length_nil, List.replicate_zero, Reps] at h; simp [h.2]
  | d :: ds, cs, h => by
    simp only [List.length_cons, List.replicate_succ, Reps] at h
    obtain ⟨κ, κs', x, rest, e1, rfl, hx, h⟩ := h
    simp only [List.cons.injEq] at e1
    obtain ⟨rfl, rfl⟩ := e1
    rw [he] at hx
    obtain ⟨h1, h2⟩ := reps_ints he ds rest h
    have hv := rep_int hx
    subst hv
    cases d with
    | int k' n =>
      simp only [Rep, K.int.injEq, Value.int.injEq] at hx
      obtain ⟨rfl, _⟩ := hx
      refine ⟨by simp only [List.map_cons, D.i]; rw [← h1], ?_⟩
      simp only [List.map_cons, D.i, Value.cells]
      rw [← h2]; rfl
    | _ => simp [Rep, K.isAgg] at hx
theorem reps_of_ints {M : Mem} {k : IntKind} {e : Nat} (he : ty e = .int k) : ∀ zs : List Int, Reps ty M (zs.map (D.int k)) (List.replicate zs.length (ty e)) (zs.map (Value.int k))
  | [] => by simp [Reps]
  | z :: zs => by
    simp only [List.map_cons, List.length_cons, List.replicate_succ, Reps]
    exact ⟨_, _, .int k z, _, rfl, rfl, by rw [he]; simp [Rep], reps_of_ints he zs⟩
theorem putRow_put {enc : Int → Value} {w : World} {blk et off : Nat} {fz : Nat × Nat} {cs : Array Value} {A M B : List Value} {d : Array Int} (h : w.heap[blk]? = some (.cells cs et fz)) (hc : cs.toList = A ++ M ++ B) (hA : A.length = off) (hM : M.length = d.size) :
    putRow enc w blk off d = putBlk w blk (.cells (A ++ d.toList.map enc ++ B).toArray et fz) := by
  have hcells : putCells enc off d cs = (A ++ d.toList.map enc ++ B).toArray := by
    apply Array.toList_inj.1
    have hcs : cs.size = (A ++ M ++ B).length := by rw [← hc]; simp
    apply List.ext_getElem?
    intro i
    simp only [putCells, Array.toList_mapIdx, List.getElem?_mapIdx, hc]
    by_cases h1 : i < off
    · rw [List.append_assoc, List.append_assoc, List.getElem?_append_left (by omega), List.getElem?_append_left (by omega)]
      cases hg : A[i]? with
      | none => rfl
      | some v => simp only [Option.map_some]; rw [if_neg (by omega)]
    · by_cases h2 : i < off + d.size
      · have hm : i < (A ++ M ++ B).length := by simp; omega
        rw [List.getElem?_eq_getElem hm, Option.map_some, if_pos ⟨by omega, h2⟩]
        rw [List.append_assoc, List.getElem?_append_right (by omega), List.getElem?_append_left (by simp; omega), hA, List.getElem?_map]
        have hd : i - off < d.toList.length := by simp; omega
        rw [List.getElem?_eq_getElem hd, Option.map_some, getElem!_pos d (i - off) (by simpa using hd)]
        simp
      · rw [List.getElem?_append_right (by simp; omega), List.getElem?_append_right (by simp; omega)]
        have : i - (A ++ M).length = i - (A ++ d.toList.map enc).length := by simp; omega
        rw [this]
        cases hg : B[i - (A ++ d.toList.map enc).length]? with
        | none => rfl
        | some v => simp only [Option.map_some]; rw [if_neg (by omega)]
  unfold putRow mapBlock putBlk
  congr 1
  apply Array.ext_getElem?
  intro i
  simp only [Array.getElem?_modify, Array.getElem?_setIfInBounds]
  by_cases hi : blk = i
  · subst hi
    have hlt := lt_of_block h
    simp only [if_true, h, Option.map_some, onCells, hcells, hlt]
  · simp [hi]
theorem grow_put {w : World} {b : Nat} {o : Obj} {os : Array Obj} (hb : b < w.heap.size) : grow (putBlk w b o) os = putBlk (grow w os) b o := by
  unfold grow putBlk
  congr 1
  apply Array.ext_getElem?
  intro i
  simp only [Array.getElem?_append, Array.getElem?_setIfInBounds, Array.size_setIfInBounds, Array.size_append]
  by_cases hi : b = i
  · subst hi; simp [hb]; omega
  · simp [hi]
theorem below_ahead_grow (w : World) (n : Nat) (os : Array Obj) : Below w.heap.size w (grow (Sort.ahead w n) os) :=
  ⟨rfl, rfl, rfl, by simp [grow, Sort.ahead], fun k hk => by simp [grow, Sort.ahead, Array.getElem?_append, hk]⟩
theorem sortX_ok (T : TyOk P ty) (L : Lays.n189 P ρ) {e : Nat} (he : ty e = .int .i64) : ExtOk P ty I gl (ρ.f 189) (sortX e) := by
  intro cd X B0 w0 μ H w args v H' xs _ _ h hargs hrun
  have hne : ty e ≠ .bad := by rw [he]; simp
  have hone : P.cellsOf e = 1 := by rw [T.szOk e hne, he]; rfl
  unfold sortX at hrun
  split at hrun
  · rename_i b off len
    simp only [RVt] at hargs
    obtain ⟨sv, _, rfl, hs, rfl⟩ := hargs
    replace hs := hs.resolve_left (by simp)
    obtain ⟨_, hs⟩ := hs
    simp only [RV] at hs
    obtain ⟨l, n, e1, hμ, hl, _, hlen, hs⟩ := hs
    split at hrun
    · rename_i e1x nn ds hH
      obtain ⟨rfl, rfl⟩ := row_loc h hH hμ hl
      simp only [Option.some.injEq, Prod.mk.injEq, Bool.and_eq_true, decide_eq_true_eq] at hrun
      obtain ⟨⟨rfl, hmax⟩, rfl, rfl⟩ := hrun
      have hobj := h.obj b l _ hμ hH
      have hsame : len = 0 → H.set b (.row e1 true nn (ds.take off ++ sortD ((ds.drop off).take len) ++ ds.drop (off + len))) = H := by
        rintro rfl
        have : ds.take off ++ sortD ((ds.drop off).take 0) ++ ds.drop (off + 0) = ds := by simp [sortD]
        rw [this]
        exact List.set_getElem?_self_of hH
      by_cases h0 : len = 0
      · rw [hsame h0]
        subst h0
        obtain ⟨p, cap, rfl⟩ : ∃ p cap, sv = .slice p 0 cap := by
          rcases hs with ⟨_, _, a, rfl, _⟩ | ⟨_, c, rfl, _⟩ | ⟨_, _, _, ad, rfl⟩
          · exact ⟨_, _, rfl⟩
          · exact ⟨_, _, rfl⟩
          · exact ⟨_, _, rfl⟩
        refine (Any.slices_Sort_int_none L p cap w).mono ?_
        rintro _ w' ⟨rfl, rfl⟩
        exact ⟨_, μ, rfl, h, .inr ⟨.bad, by simp [RV, RVt]⟩, ⟨fun _ _ => rfl, Nat.le_refl _, Mem.le_refl _, Below.refl _ _, fun _ h => h⟩⟩
      · have hvirt : l.virt = false := by
          rcases hs with ⟨_, h1, _⟩ | ⟨h1, _⟩ | ⟨_, h1, _⟩
          · exact absurd h1 h0
          · exact h1
          · exact absurd h1 h0
        obtain ⟨c, rfl, hc1, hc2, hc3⟩ : ∃ c, sv = .slice (some ⟨l.blk, l.base + off * P.cellsOf e1, none⟩) len c ∧ len ≤ c ∧ off + c ≤ l.cap ∧ ds.length ≤ off + c := by
          rcases hs with ⟨h1, _⟩ | ⟨_, c, h1⟩ | ⟨_, h1, _⟩
          · rw [hvirt] at h1; simp at h1
          · exact ⟨c, h1⟩
          · exact absurd h1 h0
        have hob := hobj
        simp only [ObjOk] at hob
        obtain ⟨_, _, _, hob⟩ := hob
        rw [if_neg (by simp [hvirt])] at hob
        obtain ⟨hnn, hcap, cs, et, fz, pre, mid, post, hb1, hcs, hpre, hrep, hpost, hfz, het⟩ := hob
        obtain ⟨p1, vs, p2, e1a, l1a, l1b, hvs, r0, r2⟩ := Reps.drop_take T.szOk hne hrep hlen
        rw [hone] at l1a l1b
        simp only [Nat.mul_one] at l1a l1b
        have hdl : ((ds.drop off).take len).length = len := by simp; omega
        have hvs' := hvs
        rw [show len = ((ds.drop off).take len).length from hdl.symm] at hvs'
        simp only [List.length_take, List.length_drop] at hvs'
        obtain ⟨q1, q2⟩ := reps_ints he ((ds.drop off).take len) vs (by rw [hdl]; exact hvs)
        have hzl : (((ds.drop off).take len).map D.i).length = len := by simpa using hdl
        have hHold : Holds (Value.int .i64) w l.blk (l.base + off * P.cellsOf e1) (((ds.drop off).take len).map D.i).toArray := by
          intro j hj
          have hj' : j < len := by rw [List.size_toArray, hzl] at hj; exact hj
          have hjv : vs[j]? = some (Value.int .i64 (((ds.drop off).take len).map D.i).toArray[j]!) := by
            rw [q2, List.getElem?_map]
            have hjz : j < (((ds.drop off).take len).map D.i).length := by omega
            rw [List.getElem?_eq_getElem hjz, Option.map_some]
            congr 1
            rw [getElem!_pos _ j (by simpa using hjz)]
            simp
          refine ⟨?_, ?_⟩
          · have := block_cells hb1 (c1 := pre ++ p1) (y := vs) (c2 := p2 ++ post) (by rw [hcs, e1a]; simp) j _ hjv
            simpa [hpre, l1a, hone, Nat.add_assoc] using this
          · rw [frozen_of_block hb1]
            have := hfz (l.base + off * P.cellsOf e1 + j) (by
              have h1 : cs.size = cs.toList.length := by simp
              rw [h1, hcs, e1a, hone]; simp only [List.length_append, hpre, l1a, l1b]; omega)
            simp at this ⊢; omega
        have hcall := Any.slices_Sort_int L l.blk (l.base + off * P.cellsOf e1) c (((ds.drop off).take len).map D.i) w hHold (lt_of_block hb1) (by rw [hzl]; unfold maxLen at hmax; omega)
        rw [hzl] at hcall
        refine hcall.mono ?_
        rintro _ w' ⟨rfl, n, os, rfl⟩
        have hperm : ((((ds.drop off).take len).map D.i).mergeSort fun x y => decide (x ≤ y)).length = len := by rw [List.length_mergeSort]; exact hzl
        have hbo : (Sort.ahead w n).heap[l.blk]? = some (.cells cs et fz) := hb1
        rw [putRow_put (A := pre ++ p1) (M := vs) (B := p2 ++ post) hbo (by rw [hcs, e1a]; simp) (by simp [hpre, l1a, hone]) (by rw [List.size_toArray, hperm, l1b]), grow_put (by exact lt_of_block hb1)]
        obtain ⟨f1, f2⟩ := h.grow (below_ahead_grow w n os)
        have hbo2 : (grow (Sort.ahead w n) os).heap[l.blk]? = some (.cells cs et fz) := by
          have := (below_ahead_grow w n os).block l.blk (lt_of_block hb1)
          rw [this]; exact hb1
        have hsl : (sortD ((ds.drop off).take len)).length = len := by unfold sortD; rw [List.length_map, hperm]
        have hall : (ds.take off ++ sortD ((ds.drop off).take len) ++ ds.drop (off + len)).length = ds.length := by simp [hsl]; omega
        obtain ⟨g1, g2⟩ := HOk.put f1 (o' := .row e1 true nn (ds.take off ++ sortD ((ds.drop off).take len) ++ ds.drop (off + len)))
          (obj := .cells (pre ++ p1 ++ List.map (Value.int .i64) ((((ds.drop off).take len).map D.i).mergeSort fun x y => decide (x ≤ y)).toArray.toList ++ (p2 ++ post)).toArray et fz) hμ hH (by simp [ownB, hvirt]) (by simp [ownB, hvirt]) (by
            simp only [ObjOk] at hobj ⊢
            rw [hall]
            refine ⟨hobj.1, hobj.2.1, hne, ?_⟩
            rw [if_neg (by simp [hvirt])]
            refine ⟨hnn, hcap, (pre ++ p1 ++ List.map (Value.int .i64) ((((ds.drop off).take len).map D.i).mergeSort fun x y => decide (x ≤ y)).toArray.toList ++ (p2 ++ post)).toArray, et, fz, pre, p1 ++ List.map (Value.int .i64) (((ds.drop off).take len).map D.i |>.mergeSort fun x y => decide (x ≤ y)) ++ p2, post, ?_, by simp, hpre, ?_, hpost, ?_, het.size (by have h9 : cs.size = cs.toList.length := (by simp); rw [h9, hcs, e1a]; simp only [List.size_toArray, List.length_append, List.length_map, List.toList_toArray, hperm, l1b]; omega)⟩
            · rw [putBlk_heap, if_pos ⟨rfl, lt_of_block hbo2⟩]
            · have er : List.replicate ds.length (ty e1) = List.replicate off (ty e1) ++ List.replicate len (ty e1) ++ List.replicate (ds.length - (off + len)) (ty e1) := by
                rw [List.replicate_append_replicate, List.replicate_append_replicate]; congr 1; omega
              rw [er]
              have hm : Reps ty (memOf (grow (Sort.ahead w n) os) (X ++ owned μ H)) (sortD ((ds.drop off).take len)) (List.replicate len (ty e1)) (List.map (Value.int .i64) ((((ds.drop off).take len).map D.i).mergeSort fun x y => decide (x ≤ y))) := by
                have := reps_of_ints (ty := ty) (M := memOf (grow (Sort.ahead w n) os) (X ++ owned μ H)) he ((((ds.drop off).take len).map D.i).mergeSort fun x y => decide (x ≤ y))
                rw [hperm] at this
                exact this
              exact ((Reps.mono _ f2.mem _ _ _ r0).append hm).append (Reps.mono _ f2.mem _ _ _ r2)
            · intro o ho
              refine hfz o ?_
              have : cs.size = cs.toList.length := by simp
              rw [this, hcs, e1a]
              simp only [List.size_toArray, List.length_append, List.length_map, List.toList_toArray, hperm, l1b] at ho ⊢
              omega)
        exact ⟨_, μ, rfl, g1, .inr ⟨.bad, by simp [RV, RVt]⟩, Fut.trans (Nat.le_refl _) f2 g2⟩
    · simp at hrun
  · rename_i κe nn
    simp only [RVt] at hargs
    obtain ⟨sv, _, rfl, hs, rfl⟩ := hargs
    replace hs := hs.resolve_left (by simp)
    obtain ⟨_, hs⟩ := hs
    simp only [RV] at hs
    obtain ⟨rfl, hs⟩ := hs
    simp only [Rep] at hs
    obtain ⟨_, ad, cap0, _, rfl, _⟩ := hs
    simp only [Option.some.injEq, Prod.mk.injEq, true_and] at hrun
    obtain ⟨rfl, rfl⟩ := hrun
    refine (Any.slices_Sort_int_none L ad cap0 w).mono ?_
    rintro _ w' ⟨rfl, rfl⟩
    exact ⟨_, μ, rfl, h, .inr ⟨.bad, by simp [RV, RVt]⟩, ⟨fun _ _ => rfl, Nat.le_refl _, Mem.le_refl _, Below.refl _ _, fun _ h => h⟩⟩
  · simp at hrun
theorem HOk.killW {sz : Nat → Nat} {X : List Nat} {B0 : Nat} {w0 w : World} {μ : List Loc} {H : List AObj} (h : HOk ty sz cd X B0 w0 μ H w) {i : Nat} {l : Loc} {o : AObj} {obj : Obj} (hμ : μ[i]? = some l) (hH : H[i]? = some o) (ho : ownB l o = some l.blk) :
    HOk ty sz cd X B0 w0 μ (H.set i .dead) (putBlk w l.blk obj) ∧ Fut X B0 μ.length μ H w μ (H.set i .dead) (putBlk w l.blk obj) := by
  have hO : Own μ H i l.blk := ⟨l, o, hμ, hH, ho⟩
  have hlow := h.low i l.blk ⟨l, o, hμ, hH, (own_uses ho).1⟩
  have hdead : ∀ b, ownB l .dead = some b → ownB l o = some b := by simp [ownB]
  have hdead' : ∀ b, usesB l .dead = some b → usesB l o = some b := by simp [usesB]
  have hle : (memOf w (X ++ owned μ H)).le (memOf (putBlk w l.blk obj) (X ++ owned μ (H.set i .dead))) := by
    refine memOf_leX (fun b hb hlt => ?_) (fun b hb => .inl ?_)
    · rw [putBlk_heap, if_neg]
      rintro ⟨rfl, _⟩
      exact hb (mem_owned.2 ⟨i, hO⟩)
    · obtain ⟨j, hj⟩ := mem_owned.1 hb
      exact mem_owned.2 ⟨j, own_set_sub hμ hH hdead j b hj⟩
  refine ⟨⟨by simpa using h.len, ?_, fun a c b h1 h2 => h.inj a c b (own_set_sub hμ hH hdead _ _ h1) (uses_set_sub hμ hH hdead' _ _ h2), fun a b h1 => h.low a b (uses_set_sub hμ hH hdead' _ _ h1), h.resv, h.below.trans (below_put hlow), by rw [putBlk_size]; exact h.size⟩,
    ⟨fun _ _ => rfl, Nat.le_refl _, hle, below_put hlow, fun b hb => by
      rw [putBlk_heap, if_neg]
      · exact hb
      rintro ⟨rfl, _⟩
      obtain ⟨l0, o0, c1, c2, c3⟩ := hO
      exact ObjOk.notDef (h.obj i l0 o0 c1 c2) (own_uses c3).1 hb⟩⟩
  intro j l1 o1 h1 h2
  by_cases hj : j = i
  · subst hj
    rw [List.getElem?_set_self (h.lt hμ)] at h2
    simp only [Option.some.injEq] at h2
    subst h2; trivial
  · rw [List.getElem?_set_ne (fun h => hj h.symm)] at h2
    refine ObjOk.mono hle (fun _ _ h => h) (fun b hb => ?_) (h.obj j l1 o1 h1 h2)
    rw [putBlk_heap, if_neg]
    rintro ⟨rfl, _⟩
    exact hj (h.inj i j _ hO ⟨l1, o1, h1, h2, hb⟩).symm
structure BldTy (P : Program) (ty : Nat → K) (ρ : Go.Shelf.Ren) (κ : K) (tp e : Nat) : Prop where
  kids : κ.kids ty = [.ptr tp, .slice e]
  agg : κ.isAgg = true
  tp : ty tp = κ
  byte : ty e = .int .u8
  lies : ∀ t, ty t = κ → liesAt P P.depth t (2 / P.cellsOf t) 0 (ρ.t 72) 1 = true
def copyCheckX (κ : K) (e : Nat) : Ext := fun args H => match args with
  | [.ptr b [] κ1] => match H[b]? with
    | some (.var κ0 v) => match v with
      | .d _ (.agg [.nilPtr, y]) => some (decide (κ1 = κ) && decide (κ0 = κ), .tup [], H.set b (.var κ0 (.agg κ0 [.ptr b [] κ, .d (.slice e) y])))
      | .agg _ [.d _ .nilPtr, y] => some (decide (κ1 = κ) && decide (κ0 = κ), .tup [], H.set b (.var κ0 (.agg κ0 [.ptr b [] κ, y])))
      | .agg _ [.ptr b1 [] _, _] => some (decide (κ1 = κ) && decide (κ0 = κ) && Nat.beq b1 b, .tup [], H)
      | _ => none
    | _ => none
  | _ => none
theorem bld_cells (T : TyOk P ty) {M : Mem} {μ : List Loc} {κ : K} {tp e : Nat} {v : V} {x : Value} (B : BldTy P ty ρ κ tp e) (h : RV ty P.cellsOf M μ v κ x) : ∃ x0 x1, x = .agg #[x0, x1] ∧
    (∀ vs, v = .agg κ vs → RVs ty P.cellsOf M μ vs [.ptr tp, .slice e] [x0, x1]) ∧ (∀ ds, v = .d κ (.agg ds) → Reps ty M ds [.ptr tp, .slice e] [x0, x1]) ∧
    (∀ κ' vs, v = .agg κ' vs → κ' = κ) ∧ (∀ κ' d, v = .d κ' d → κ' = κ) := by
  cases v with
  | d κ' d =>
    simp only [RV] at h
    obtain ⟨rfl, h⟩ := h
    obtain ⟨ds, cs, rfl, rfl, hr⟩ := Rep.isAgg h B.agg
    rw [B.kids] at hr
    have hr0 := hr
    have hlen := Reps.length hr
    match ds, hlen, hr with
    | [], hlen, hr => simp at hlen
    | [d0], hlen, hr => simp at hlen
    | d0 :: d1 :: ds2, hlen, hr =>
      simp only [Reps] at hr
      obtain ⟨k0, ks, y0, r0, e1, e2, p0, k1, ks1, y1, r1, e3, e4, p1, p2⟩ := hr
      simp only [List.cons.injEq] at e1
      obtain ⟨rfl, rfl⟩ := e1
      simp only [List.cons.injEq] at e3
      obtain ⟨rfl, rfl⟩ := e3
      cases ds2 with
      | cons _ _ => simp at hlen
      | nil =>
        simp only [Reps] at p2
        obtain ⟨_, rfl⟩ := p2
        have s0 := (Rep.scal _ _ _ _ p0).1 rfl
        have s1 := (Rep.scal _ _ _ _ p1).1 rfl
        have hcs : cs = #[y0, y1] := by
          apply Array.toList_inj.1
          rw [e2, e4, cells_scal s0, cells_scal s1]; rfl
        subst hcs
        refine ⟨y0, y1, rfl, fun vs hv => by simp at hv, fun ds hv => ?_, fun _ _ hv => by simp at hv, fun κ' d hv => by simp only [V.d.injEq] at hv; exact hv.1.symm⟩
        simp only [V.d.injEq, D.agg.injEq, true_and] at hv
        rw [← hv]; exact hr0
  | agg κ' vs =>
    simp only [RV] at h
    obtain ⟨rfl, _, cs, rfl, hr⟩ := h
    rw [B.kids] at hr
    have hr0 := hr
    have hlen := RVs.length hr
    match vs, hlen, hr with
    | [], hlen, hr => simp at hlen
    | [d0], hlen, hr => simp at hlen
    | d0 :: d1 :: ds2, hlen, hr =>
      simp only [RVs] at hr
      obtain ⟨k0, ks, y0, r0, e1, e2, n0, p0, k1, ks1, y1, r1, e3, e4, n1, p1, p2⟩ := hr
      simp only [List.cons.injEq] at e1
      obtain ⟨rfl, rfl⟩ := e1
      simp only [List.cons.injEq] at e3
      obtain ⟨rfl, rfl⟩ := e3
      cases ds2 with
      | cons _ _ => simp at hlen
      | nil =>
        simp only [RVs] at p2
        obtain ⟨_, rfl⟩ := p2
        have s0 : AM.scal y0 = true := (RV.size T.szOk _ _ _ p0 n0).2.2 rfl
        have s1 : AM.scal y1 = true := (RV.size T.szOk _ _ _ p1 n1).2.2 rfl
        have hcs : cs = #[y0, y1] := by
          apply Array.toList_inj.1
          rw [e2, e4, cells_scal s0, cells_scal s1]; rfl
        subst hcs
        refine ⟨y0, y1, rfl, fun vs hv => ?_, fun ds hv => by simp at hv, fun κ' vs hv => by simp only [V.agg.injEq] at hv; exact hv.1.symm, fun _ _ hv => by simp at hv⟩
        simp only [V.agg.injEq, true_and] at hv
        rw [← hv]; exact hr0
  | _ =>
    have hk := B.agg
    cases κ <;> simp [K.isAgg] at hk <;> simp [RV] at h
theorem copyCheckX_ok (T : TyOk P ty) (L : Lays.n240 P ρ) (X : Builder.X72 P ρ) {κ : K} {tp e : Nat} (B : BldTy P ty ρ κ tp e) : ExtOk P ty I gl (ρ.f 240) (copyCheckX κ e) := by
  intro cd XX B0 w0 μ H w args v H' xs _ _ h hargs hrun
  unfold copyCheckX at hrun
  split at hrun
  case h_2 => simp at hrun
  rename_i b κ1
  simp only [RVt] at hargs
  obtain ⟨sv, _, rfl, hs, rfl⟩ := hargs
  replace hs := hs.resolve_left (by simp)
  obtain ⟨_, hs⟩ := hs
  simp only [RV, pathOff] at hs
  obtain ⟨_, l, hμ, hvirt, _, hk1, rfl⟩ := hs
  split at hrun
  case h_2 => simp at hrun
  rename_i κ0 u hH
  have hobj := h.obj b l _ hμ hH
  simp only [ObjOk] at hobj
  obtain ⟨_, hb0, hk0, hkb, cs, et, x, hblk, hrv, hcells, het⟩ := hobj
  have hnewptr : κ0 = κ → ∀ M, RV ty P.cellsOf M μ (.ptr b [] κ) (.ptr tp) (.pointer (some ⟨l.blk, 0, none⟩)) := by
    rintro rfl M
    simp only [RV, pathOff]
    exact ⟨⟨tp, rfl, B.tp⟩, l, hμ, hvirt, trivial, hk0, by rw [hb0]⟩
  have hfresh : ∀ (x1 : Value) (u1 : V), κ0 = κ → x = .agg #[.pointer none, x1] → AM.scal x1 = true → RV ty P.cellsOf (memOf w (XX ++ owned μ H)) μ u1 (.slice e) x1 →
      Calls P (ρ.f 240) #[.pointer (some ⟨l.blk, l.base + 0, none⟩)] w fun e' w' => ∃ y μ', e' = .returned y ∧ HOk ty P.cellsOf cd XX B0 w0 μ' (H.set b (.var κ0 (.agg κ0 [.ptr b [] κ, u1]))) w' ∧
        RR ty P.cellsOf (M_ XX μ' (H.set b (.var κ0 (.agg κ0 [.ptr b [] κ, u1]))) w') μ' (.tup []) y ∧ Fut XX B0 μ.length μ H w μ' (H.set b (.var κ0 (.agg κ0 [.ptr b [] κ, u1]))) w' := by
    intro x1 u1 hκ hx hs1 hr1
    subst hκ
    have hcs : cs = #[.pointer none, x1] := by
      rw [← hcells, hx]; rfl
    rw [hcs] at hblk
    rw [hb0]
    refine (copyCheck_fresh L X l.blk et w (by rw [cell_of_block hblk]; rfl) (by simp [World.shape?, hblk]) (B.lies et het) (by rw [frozen_of_block hblk]; simp)).mono ?_
    rintro _ w' ⟨rfl, rfl⟩
    rw [setCell_put hblk]
    obtain ⟨g1, g2⟩ := HOk.put h (o' := .var κ0 (.agg κ0 [.ptr b [] κ0, u1])) (obj := .cells (#[Value.pointer none, x1].setIfInBounds 0 (.pointer (some ⟨l.blk, 0, none⟩))) et (0, 0)) hμ hH rfl rfl (by
      simp only [ObjOk]
      refine ⟨hvirt, hb0, hk0, hkb, #[.pointer (some ⟨l.blk, 0, none⟩), x1], et, .agg #[.pointer (some ⟨l.blk, 0, none⟩), x1], ?_, ?_, rfl, het⟩
      · rw [putBlk_heap, if_pos ⟨rfl, lt_of_block hblk⟩]; rfl
      · simp only [RV]
        refine ⟨trivial, B.agg, _, rfl, ?_⟩
        rw [B.kids]
        simp only [RVs]
        refine ⟨_, _, .pointer (some ⟨l.blk, 0, none⟩), [x1], rfl, by simp [Value.cells], by simp, hnewptr rfl _, _, _, x1, [], rfl, by rw [cells_scal hs1]; simp, by simp, hr1, rfl, rfl⟩)
    exact ⟨_, μ, rfl, g1, .inr ⟨.bad, by simp [RV, RVt]⟩, g2⟩
  split at hrun
  · rename_i κ' y
    simp only [Option.some.injEq, Prod.mk.injEq, Bool.and_eq_true, decide_eq_true_eq] at hrun
    obtain ⟨⟨rfl, rfl⟩, rfl, rfl⟩ := hrun
    obtain ⟨x0, x1, hx, _, hc2, _, hc4⟩ := bld_cells T B hrv
    obtain rfl := hc4 _ _ rfl
    have hr := hc2 _ rfl
    simp only [Reps] at hr
    obtain ⟨k0, ks, y0, r0, e1, e2, p0, k1, ks1, y1, r1, e3, e4, p1, p2, p3⟩ := hr
    simp only [List.cons.injEq] at e1
    obtain ⟨rfl, rfl⟩ := e1
    simp only [List.cons.injEq] at e3
    obtain ⟨rfl, rfl⟩ := e3
    simp only [Rep] at p0
    obtain ⟨_, rfl⟩ := p0
    have s1 := (Rep.scal _ _ _ _ p1).1 rfl
    subst p3
    rw [e4, cells_scal s1] at e2
    simp [Value.cells] at e2
    obtain ⟨rfl, rfl⟩ := e2
    exact hfresh x1 (.d (.slice e) y) rfl hx s1 (by simp only [RV]; exact ⟨trivial, p1⟩)
  · rename_i κ' κ2 y
    simp only [Option.some.injEq, Prod.mk.injEq, Bool.and_eq_true, decide_eq_true_eq] at hrun
    obtain ⟨⟨rfl, rfl⟩, rfl, rfl⟩ := hrun
    obtain ⟨x0, x1, hx, hc1, _, hc3, _⟩ := bld_cells T B hrv
    obtain rfl := hc3 _ _ rfl
    have hr := hc1 _ rfl
    simp only [RVs] at hr
    obtain ⟨k0, ks, y0, r0, e1, e2, n0, p0, k1, ks1, y1, r1, e3, e4, n1, p1, p2, p3⟩ := hr
    simp only [List.cons.injEq] at e1
    obtain ⟨rfl, rfl⟩ := e1
    simp only [List.cons.injEq] at e3
    obtain ⟨rfl, rfl⟩ := e3
    simp only [RV, Rep] at p0
    obtain ⟨_, _, rfl⟩ := p0
    have s1 : AM.scal y1 = true := (RV.size T.szOk _ _ _ p1 n1).2.2 rfl
    subst p3
    rw [e4, cells_scal s1] at e2
    simp [Value.cells] at e2
    obtain ⟨rfl, rfl⟩ := e2
    exact hfresh x1 y rfl hx s1 p1
  · rename_i κ' b1 κ2 y
    simp only [Option.some.injEq, Prod.mk.injEq, Bool.and_eq_true, decide_eq_true_eq] at hrun
    obtain ⟨⟨⟨rfl, rfl⟩, hbb⟩, rfl, rfl⟩ := hrun
    obtain rfl := Nat.eq_of_beq_eq_true hbb
    obtain ⟨x0, x1, hx, hc1, _, hc3, _⟩ := bld_cells T B hrv
    obtain rfl := hc3 _ _ rfl
    have hr := hc1 _ rfl
    simp only [RVs] at hr
    obtain ⟨k0, ks, y0, r0, e1, e2, n0, p0, k1, ks1, y1, r1, e3, e4, n1, p1, p2, p3⟩ := hr
    simp only [List.cons.injEq] at e1
    obtain ⟨rfl, rfl⟩ := e1
    simp only [RV, pathOff] at p0
    obtain ⟨_, l2, hμ2, _, _, _, rfl⟩ := p0
    rw [hμ] at hμ2
    obtain rfl := Option.some.inj hμ2
    simp [Value.cells] at e2
    obtain ⟨e2, _⟩ := e2
    have hcs : cs = #[x0, x1] := by rw [← hcells, hx]; rfl
    rw [hcs, e2] at hblk
    rw [hb0] at hblk ⊢
    refine (Any.Builder_copyCheck_used L X l.blk w (by rw [cell_of_block hblk]; rfl)).mono ?_
    rintro _ w' ⟨rfl, rfl⟩
    exact ⟨_, μ, rfl, h, .inr ⟨.bad, by simp [RV, RVt]⟩, ⟨fun _ _ => rfl, Nat.le_refl _, Mem.le_refl _, Below.refl _ _, fun _ h => h⟩⟩
  · simp at hrun
theorem sameLayout_byte (T : TyOk P ty) (X : Builder.Extra P ρ) {e : Nat} (he : ty e = .int .u8) : sameLayout P P.depth e (ρ.t 5) = true := by
  have hd : P.depth = (2 * (P.types.size + Made.depth) + 1) + 1 := rfl
  rw [hd]
  simp only [sameLayout, under_int T he, X.t5]
  simp
theorem lies_bytes (T : TyOk P ty) (X : Builder.Extra P ρ) {et e cells off n : Nat} (he : ty e = .int .u8) (het : etRow ty et e cells) (hn : off + n ≤ cells) (h0 : 0 < n) :
    liesAt P P.depth et (cells / P.cellsOf et) off (ρ.t 5) n = true := by
  have hd : P.depth = (2 * (P.types.size + Made.depth) + 1) + 1 := rfl
  have he1 : P.cellsOf e = 1 := by rw [T.szOk e (by rw [he]; simp), he]; rfl
  rw [hd]
  simp only [liesAt, Bool.or_eq_true]
  left
  rcases het with het | ⟨m, het, hm⟩
  · rw [he] at het
    have hc : P.cellsOf et = 1 := by rw [T.szOk et (by rw [het]; simp), het]; rfl
    generalize hq : (fun x => sameLayout P P.depth x (ρ.t 5)) = q
    have hqe : q et = true := by rw [← hq]; exact sameLayout_byte T X het
    rw [hd]
    simp only [rowAt, hc]
    simp [hn, hqe, Nat.mod_one]
  · obtain rfl := hm he
    obtain ⟨hu, _, _⟩ := under_array T het
    have hc : P.cellsOf et = cells := by rw [T.szOk et (by rw [het]; simp), het]; simp [ksz, he1]
    have hpos : 0 < cells := by omega
    have h1 : off / cells = 0 := Nat.div_eq_of_lt (by omega)
    have h2 : off % cells = off := Nat.mod_eq_of_lt (by omega)
    have h3 : cells / cells = 1 := Nat.div_self hpos
    generalize hq : (fun x => sameLayout P P.depth x (ρ.t 5)) = q
    have hqe : q e = true := by rw [← hq]; exact sameLayout_byte T X he
    have h4 : rowAt P q (2 * (P.types.size + Made.depth) + 1) e cells off n = true := by
      simp only [rowAt, he1]
      simp [hn, hqe, Nat.mod_one]
    rw [hd, rowAt]
    simp only [hc, h1, h2, h3, hu]
    rw [if_neg (by omega)]
    simp only [Bool.or_eq_true, Bool.and_eq_true]
    exact .inr ⟨by simp, h4⟩
def stringX (κ : K) : Ext := fun args H => match args with
  | [.ptr b [] κ1] => match H[b]? with
    | some (.var κ0 v) => match v with
      | .d _ (.agg [_, .slice false []]) => some (decide (κ1 = κ) && decide (κ0 = κ), .d .str (.str (ofBytes [])), H)
      | .agg _ [_, .d _ (.slice false [])] => some (decide (κ1 = κ) && decide (κ0 = κ), .d .str (.str (ofBytes [])), H)
      | .agg _ [_, .sref r off len] => match H[r]? with
        | some (.row _ true nn ds) => some (decide (κ1 = κ) && decide (κ0 = κ) && ((bif nn then decide (0 < len) else true) && decide (len ≤ maxLen)), .d .str (.str (ofBytes ((ds.drop off).take len))), H.set r .dead)
        | _ => none
      | _ => none
    | _ => none
  | _ => none
theorem stringX_ok (T : TyOk P ty) (L : Lays.n169 P ρ) (X : Builder.Extra P ρ) {κ : K} {tp e : Nat} (B : BldTy P ty ρ κ tp e) : ExtOk P ty I gl (ρ.f 169) (stringX κ) := by
  intro cd XX B0 w0 μ H w args v H' xs _ _ h hargs hrun
  unfold stringX at hrun
  split at hrun
  case h_2 => simp at hrun
  rename_i b κ1
  simp only [RVt] at hargs
  obtain ⟨sv, _, rfl, hs, rfl⟩ := hargs
  replace hs := hs.resolve_left (by simp)
  obtain ⟨_, hs⟩ := hs
  simp only [RV, pathOff] at hs
  obtain ⟨_, l, hμ, hvirt, _, hk1, rfl⟩ := hs
  split at hrun
  case h_2 => simp at hrun
  rename_i κ0 u hH
  have hobj := h.obj b l _ hμ hH
  simp only [ObjOk] at hobj
  obtain ⟨_, hb0, hk0, hkb, cs, et, x, hblk, hrv, hcells, het⟩ := hobj
  have hnil : ∀ x0, κ0 = κ → x = .agg #[x0, .slice none 0 0] → AM.scal x0 = true →
      Calls P (ρ.f 169) #[.pointer (some ⟨l.blk, l.base + 0, none⟩)] w fun e' w' => e' = .returned (.string ⟨#[]⟩) ∧ Below w.heap.size w w' := by
    intro x0 hκ hx hs0
    have hcs : cs = #[x0, .slice none 0 0] := by rw [← hcells, hx]; rfl
    rw [hcs] at hblk
    rw [hb0]
    exact bld_String_nil L X w.heap.size l.blk et x0 w hblk
  split at hrun
  · rename_i κ' d0
    simp only [Option.some.injEq, Prod.mk.injEq, Bool.and_eq_true, decide_eq_true_eq] at hrun
    obtain ⟨⟨rfl, rfl⟩, rfl, rfl⟩ := hrun
    obtain ⟨x0, x1, hx, _, hc2, _, hc4⟩ := bld_cells T B hrv
    obtain rfl := hc4 _ _ rfl
    have hr := hc2 _ rfl
    simp only [Reps] at hr
    obtain ⟨k0, ks, y0, r0, e1, e2, p0, k1, ks1, y1, r1, e3, e4, p1, p2, p3⟩ := hr
    simp only [List.cons.injEq] at e1
    obtain ⟨rfl, rfl⟩ := e1
    simp only [List.cons.injEq] at e3
    obtain ⟨rfl, rfl⟩ := e3
    have s0 := (Rep.scal _ _ _ _ p0).1 rfl
    simp only [Rep] at p1
    obtain ⟨_, ad, cap, _, rfl, _, hnn, hcap, _⟩ := p1
    have had : ad = none := by cases ad with | none => rfl | some _ => simp at hnn
    subst had
    obtain rfl := hcap rfl
    subst p3
    rw [e4, cells_scal s0] at e2
    simp [Value.cells] at e2
    obtain ⟨rfl, rfl⟩ := e2
    refine (hnil x0 rfl hx s0).mono ?_
    rintro _ w' ⟨rfl, hb⟩
    obtain ⟨f1, f2⟩ := h.grow hb
    exact ⟨_, μ, rfl, f1, .inr ⟨.str, by simp [RV, Rep, ofBytes]⟩, f2⟩
  · rename_i κ' d0 κ2
    simp only [Option.some.injEq, Prod.mk.injEq, Bool.and_eq_true, decide_eq_true_eq] at hrun
    obtain ⟨⟨rfl, rfl⟩, rfl, rfl⟩ := hrun
    obtain ⟨x0, x1, hx, hc1, _, hc3, _⟩ := bld_cells T B hrv
    obtain rfl := hc3 _ _ rfl
    have hr := hc1 _ rfl
    simp only [RVs] at hr
    obtain ⟨k0, ks, y0, r0, e1, e2, n0, p0, k1, ks1, y1, r1, e3, e4, n1, p1, p2, p3⟩ := hr
    simp only [List.cons.injEq] at e1
    obtain ⟨rfl, rfl⟩ := e1
    simp only [List.cons.injEq] at e3
    obtain ⟨rfl, rfl⟩ := e3
    have s0 : AM.scal y0 = true := (RV.size T.szOk _ _ _ p0 n0).2.2 rfl
    simp only [RV, Rep] at p1
    obtain ⟨_, _, ad, cap, _, rfl, _, hnn, hcap, _⟩ := p1
    have had : ad = none := by cases ad with | none => rfl | some _ => simp at hnn
    subst had
    obtain rfl := hcap rfl
    subst p3
    rw [e4, cells_scal s0] at e2
    simp [Value.cells] at e2
    obtain ⟨rfl, rfl⟩ := e2
    refine (hnil x0 rfl hx s0).mono ?_
    rintro _ w' ⟨rfl, hb⟩
    obtain ⟨f1, f2⟩ := h.grow hb
    exact ⟨_, μ, rfl, f1, .inr ⟨.str, by simp [RV, Rep, ofBytes]⟩, f2⟩
  · rename_i κ' d0 r off len
    split at hrun
    case h_2 => simp at hrun
    rename_i er nn ds hHr
    simp only [Option.some.injEq, Prod.mk.injEq, Bool.and_eq_true, decide_eq_true_eq] at hrun
    obtain ⟨⟨⟨rfl, rfl⟩, hlen0, hmax⟩, rfl, rfl⟩ := hrun
    obtain ⟨x0, x1, hx, hc1, _, hc3, _⟩ := bld_cells T B hrv
    obtain rfl := hc3 _ _ rfl
    have hr := hc1 _ rfl
    simp only [RVs] at hr
    obtain ⟨k0, ks, y0, r0, e1, e2, n0, p0, k1, ks1, y1, r1, e3, e4, n1, p1, p2, p3⟩ := hr
    simp only [List.cons.injEq] at e1
    obtain ⟨rfl, rfl⟩ := e1
    simp only [List.cons.injEq] at e3
    obtain ⟨rfl, rfl⟩ := e3
    have s0 : AM.scal y0 = true := (RV.size T.szOk _ _ _ p0 n0).2.2 rfl
    have s1 : AM.scal y1 = true := (RV.size T.szOk _ _ _ p1 n1).2.2 rfl
    subst p3
    rw [e4, cells_scal s0, cells_scal s1] at e2
    simp at e2
    obtain ⟨rfl, rfl⟩ := e2
    simp only [RV] at p1
    obtain ⟨lr, n, e1', hμr, hlr, hke, hlen, hs⟩ := p1
    simp only [K.slice.injEq] at hke
    subst hke
    obtain ⟨rfl, rfl⟩ := row_loc h hHr hμr hlr
    have hobr := h.obj r lr _ hμr hHr
    simp only [ObjOk] at hobr
    obtain ⟨_, hnnr, hne, hobr⟩ := hobr
    cases nn with
    | false =>
      have hvr : lr.virt = true := by
        cases hv : lr.virt with
        | true => rfl
        | false => rw [if_neg (by simp [hv])] at hobr; simp at hobr
      rw [if_pos hvr] at hobr
      subst hobr
      obtain ⟨a, hx1, ha⟩ : ∃ a, x1 = .slice a 0 0 ∧ a.isSome = false := by
        rcases hs with ⟨_, _, a, h1, h2⟩ | ⟨h1, _⟩ | ⟨h1, _⟩
        · exact ⟨a, h1, by rw [h2, hnnr]⟩
        · rw [hvr] at h1; simp at h1
        · rw [hvr] at h1; simp at h1
      have ha : a = none := by cases a with | none => rfl | some _ => simp at ha
      subst ha hx1
      refine (hnil x0 rfl hx s0).mono ?_
      rintro _ w' ⟨rfl, hb⟩
      obtain ⟨f1, f2⟩ := h.grow hb
      obtain ⟨g1, g2⟩ := f1.less (o' := .dead) hμr hHr (by simp [ownB]) (by simp [usesB]) (fun _ _ => trivial)
      exact ⟨_, μ, rfl, g1, .inr ⟨.str, by simp [RV, Rep, ofBytes]⟩, Fut.trans (Nat.le_refl _) f2 g2⟩
    | true =>
      simp only [cond_true, decide_eq_true_eq] at hlen0
      have hvr : lr.virt = false := by
        rcases hs with ⟨_, h1, _⟩ | ⟨h1, _⟩ | ⟨h1, _⟩
        · omega
        · exact h1
        · exact h1
      rw [if_neg (by simp [hvr])] at hobr
      obtain ⟨_, hcap, cs2, et2, fz2, pre, mid, post, hb2, hcs2, hpre, hrep, hpost, hfz2, het2⟩ := hobr
      obtain ⟨c, rfl, hc1', hc2', _⟩ : ∃ c, x1 = .slice (some ⟨lr.blk, lr.base + off * P.cellsOf e, none⟩) len c ∧ len ≤ c ∧ off + c ≤ lr.cap ∧ ds.length ≤ off + c := by
        rcases hs with ⟨h1, _⟩ | ⟨_, c, h1⟩ | ⟨_, h1, _⟩
        · rw [hvr] at h1; simp at h1
        · exact ⟨c, h1⟩
        · omega
      have he8 : ty e = .int .u8 := B.byte
      have hone : P.cellsOf e = 1 := by rw [T.szOk e hne, he8]; rfl
      obtain ⟨q1, vs, q2, e1a, l1a, l1b, hvs, _, _⟩ := Reps.drop_take T.szOk hne hrep hlen
      rw [hone] at l1a l1b
      simp only [Nat.mul_one] at l1a l1b
      have hdl : ((ds.drop off).take len).length = len := by simp; omega
      obtain ⟨z1, z2⟩ := reps_ints he8 ((ds.drop off).take len) vs (by rw [hdl]; exact hvs)
      have hzl : (((ds.drop off).take len).map D.i).length = len := by rw [List.length_map, hdl]
      have hcs : cs = #[x0, .slice (some ⟨lr.blk, lr.base + off * P.cellsOf e, none⟩) (((ds.drop off).take len).map D.i).length c] := by rw [← hcells, hx, hzl]; rfl
      rw [hcs] at hblk
      have hsz : lr.base + off * P.cellsOf e + len ≤ cs2.size := by
        have h9 : cs2.size = cs2.toList.length := (by simp)
        rw [h9, hcs2, e1a, hone]; simp only [List.length_append, hpre, l1a, l1b]; omega
      rw [hb0]
      have hcell : ∀ j x, (((ds.drop off).take len).map D.i)[j]? = some x → w.cell? ⟨lr.blk, lr.base + off * P.cellsOf e + j, none⟩ = some (.int .u8 x) := by
        intro j x hj
        have hjv : vs[j]? = some (Value.int .u8 x) := by rw [z2, List.getElem?_map, hj]; rfl
        have := block_cells hb2 (c1 := pre ++ q1) (y := vs) (c2 := q2 ++ post) (by rw [hcs2, e1a]; simp) j _ hjv
        simpa [hpre, l1a, hone, Nat.add_assoc] using this
      refine (bld_String L X l.blk lr.blk (lr.base + off * P.cellsOf e) c et et2 cs2.size x0 (((ds.drop off).take len).map D.i) w hblk (by omega) (by intro h0; rw [h0] at hzl; simp at hzl; omega) (by simp [World.shape?, hb2])
        (lies_bytes T X he8 het2 (by rw [hzl]; exact hsz) (by rw [hzl]; exact hlen0)) (by rw [hzl]; unfold maxLen at hmax; omega) hcell).mono ?_
      rintro _ w' ⟨rfl, rfl⟩
      obtain ⟨f1, f2⟩ := h.grow (w' := w.drew) ⟨rfl, rfl, rfl, Nat.le_refl _, fun _ _ => rfl⟩
      have hb2' : w.drew.heap[lr.blk]? = some (.cells cs2 et2 fz2) := hb2
      obtain ⟨fz3, hfz3⟩ : ∃ fz3, w.drew.freeze ⟨lr.blk, lr.base + off * P.cellsOf e, none⟩ (((ds.drop off).take len).map D.i).length = putBlk w.drew lr.blk (.cells cs2 et2 fz3) := by
        obtain ⟨lo, hi⟩ := fz2
        refine ⟨if lo == hi then (lr.base + off * P.cellsOf e, lr.base + off * P.cellsOf e + (((ds.drop off).take len).map D.i).length) else (min lo (lr.base + off * P.cellsOf e), max hi (lr.base + off * P.cellsOf e + (((ds.drop off).take len).map D.i).length)), ?_⟩
        unfold World.freeze putBlk
        rw [if_neg (by rw [hzl]; omega)]
        congr 1
        apply Array.ext_getElem?
        intro i
        simp only [Array.getElem?_modify, Array.getElem?_setIfInBounds]
        by_cases hi : lr.blk = i
        · subst hi
          have hlt := lt_of_block hb2'
          simp only [if_true, hb2', Option.map_some, hlt]
        · simp [hi]
      rw [hfz3]
      obtain ⟨g1, g2⟩ := HOk.killW f1 (obj := .cells cs2 et2 fz3) hμr hHr (by simp [ownB, hvr])
      refine ⟨_, μ, rfl, g1, .inr ⟨.str, ?_⟩, Fut.trans (Nat.le_refl _) f2 g2⟩
      simp [RV, Rep, ofBytes, Function.comp_def]
  · simp at hrun
end
end Go.AM
