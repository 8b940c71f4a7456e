/- Part 7 of the proof: the abstract machine, what the functions compute, and plain laws over that. -/
import Derived.Test.YtonknblidjpfeaaGreatDoorMr6
import Derived.Shelf.Unicode.DecodeAny
import Derived.Shelf.Spec.SlicesInsert
import Derived.Shelf.Spec.SlicesInsertGrow
import Derived.Test.YtonknblidjpfeaaGreatDoorProg
import Derived.KernelRfl
set_option linter.all false
set_option linter.unusedSimpArgs false
set_option linter.unusedVariables false
set_option linter.unusedSectionVars false
namespace Go.AM
open Go
def nI (n : Nat) : Int := n
def ltI (a b : Int) : Bool := decide (a < b)
def leI (a b : Int) : Bool := decide (a ≤ b)
def gtI (a b : Int) : Bool := decide (a > b)
def geI (a b : Int) : Bool := decide (a ≥ b)
def eqI (a b : Int) : Bool := a == b
def neI (a b : Int) : Bool := a != b
def inb (i : Int) (n : Nat) : Bool := decide (0 ≤ i) && decide (i < (n : Int))
def leN (a b : Nat) : Bool := decide (a ≤ b)
def eqN (a b : Nat) : Bool := decide (a = b)
def mx (n : Nat) : Bool := decide (n ≤ maxLen)
def ix (l : List D) (n : Nat) : D := l.getD n .nilFunc
def ap (a b : List D) : List D := a ++ b
def rp (n : Nat) (d : D) : List D := List.replicate n d
def ad (k : IntKind) (a b : Int) : Int := k.wrap (a + b)
def sb (k : IntKind) (a b : Int) : Int := k.wrap (a - b)
def ml (k : IntKind) (a b : Int) : Int := k.wrap (a * b)
def cv (k : IntKind) (a : Int) : Int := k.wrap a
def shlI (k : IntKind) (a : Int) (n : Nat) : Int := k.wrap (a * 2 ^ (min n k.bits))
def shrI (k : IntKind) (a : Int) (n : Nat) : Int := a.fdiv (2 ^ (min n k.bits))
def andI (k : IntKind) (a b : Int) : Int := k.wrap (BitVec.ofInt k.bits a &&& BitVec.ofInt k.bits b).toNat
def orI (k : IntKind) (a b : Int) : Int := k.wrap (BitVec.ofInt k.bits a ||| BitVec.ofInt k.bits b).toNat
def xorI (k : IntKind) (a b : Int) : Int := k.wrap (BitVec.ofInt k.bits a ^^^ BitVec.ofInt k.bits b).toNat
def andNotI (k : IntKind) (a b : Int) : Int := k.wrap (BitVec.ofInt k.bits a &&& ~~~(BitVec.ofInt k.bits b)).toNat
def notI (k : IntKind) (a : Int) : Int := k.wrap (BitVec.ofInt k.bits (if k.signed then -1 else k.max) ^^^ BitVec.ofInt k.bits a).toNat
def maxi (a b : Int) : Int := if b > a then b else a
def mini (a b : Int) : Int := if b < a then b else a
def quoI (k : IntKind) (a b : Int) : Int := k.wrap (a.tdiv b)
def remI (a b : Int) : Int := a.tmod b
def eqS (a b : ByteArray) : Bool := a.toList == b.toList
def ltS (a b : ByteArray) : Bool := Op.bytesLess a.toList b.toList
def cat (a b : ByteArray) : Option D := if a.size + b.size ≤ maxInt then some (.str (a ++ b)) else none
def bs (l : List UInt8) : ByteArray := ⟨l.toArray⟩
def bd (o : Option D) (f : D → Option D) : Option D := match o with | some r => f r | none => none
def bdB (x : D) (f : Bool → Option D) : Option D := match x with | .bool b => f b | _ => none
abbrev di (x : Int) : D := .int .i64 x
abbrev db (x : Bool) : D := .bool x
abbrev dS (x : ByteArray) : D := .str x
abbrev da (l : List D) : D := .agg l
abbrev dl (b : Bool) (l : List D) : D := .slice b l
abbrev vi (x : Int) : V := .d (.int .i64) (.int .i64 x)
abbrev vb (x : Bool) : V := .d .bool (.bool x)
abbrev vS (x : ByteArray) : V := .d .str (.str x)
abbrev vk (k : K) (x : D) : V := .d k x
abbrev v0 : V := .tup []
end Go.AM
namespace Go.AM
open Go Go.RowKit
def K.flat (ty : Nat → K) : Nat → K → Bool
  | _, .bool => true
  | _, .int _ => true
  | _, .str => true
  | _, .func => true
  | n + 1, .struct fs => fs.all fun f => K.flat ty n (ty f)
  | n + 1, .array _ e => K.flat ty n (ty e)
  | _, _ => false
section
variable {ty : Nat → K}
mutual
theorem has_flat : ∀ (d : D) (n : Nat) (κ : K), D.has ty d κ → K.flat ty n κ = true → d.noMem = true
  | .bool _, _, _, _, _ => rfl
  | .int _ _, _, _, _, _ => rfl
  | .str _, _, _, _, _ => rfl
  | .agg ds, n, κ, h, hf => by
    simp only [D.has] at h
    simp only [D.noMem]
    obtain ⟨h1, h2⟩ := h
    cases κ <;> simp [K.isAgg] at h1
    · cases n with
      | zero => simp [K.flat] at hf
      | succ n =>
        simp only [K.flat, List.all_eq_true] at hf
        refine hass_flat ds n _ h2 fun κ hκ => ?_
        simp only [K.kids, List.mem_map] at hκ
        obtain ⟨f, hfm, rfl⟩ := hκ
        exact hf f hfm
    · cases n with
      | zero => simp [K.flat] at hf
      | succ n =>
        simp only [K.flat] at hf
        refine hass_flat ds n _ h2 fun κ hκ => ?_
        simp only [K.kids] at hκ
        rw [List.eq_of_mem_replicate hκ]
        exact hf
  | .slice nn ds, n, κ, h, hf => by
    simp only [D.has] at h
    obtain ⟨e, rfl, _⟩ := h
    cases n <;> simp [K.flat] at hf
  | .iface t x, n, κ, h, hf => by
    simp only [D.has] at h
    obtain ⟨⟨m, rfl⟩, _⟩ := h
    cases n <;> simp [K.flat] at hf
  | .nilIface, _, _, _, _ => rfl
  | .fn _, _, _, _, _ => rfl
  | .nilFunc, _, _, _, _ => rfl
  | .nilPtr, _, _, _, _ => rfl
  | .nilMap, _, _, _, _ => rfl
  | .tup _, _, _, h, _ => by simp [D.has] at h
theorem hass_flat : ∀ (ds : List D) (n : Nat) (κs : List K), D.hass ty ds κs → (∀ κ ∈ κs, K.flat ty n κ = true) → D.noMems ds = true
  | [], _, _, _, _ => rfl
  | d :: ds, n, κs, h, hf => by
    simp only [D.hass] at h
    obtain ⟨κ, κs', rfl, h1, h2⟩ := h
    simp only [D.noMems, Bool.and_eq_true]
    exact ⟨has_flat d n κ h1 (hf κ (by simp)), hass_flat ds n κs' h2 fun κ hκ => hf κ (by simp [hκ])⟩
end
theorem res_flat {M : Mem} {ts : List Nat} {r : D} {v : Value} {n : Nat} (h : ResRep ty M ts r v) (hf : ts.all (fun t => K.flat ty n (ty t)) = true) : r.noMem = true := by
  rw [List.all_eq_true] at hf
  unfold ResRep at h
  split at h
  · rename_i t
    exact has_flat r n _ (rep_has _ _ _ h) (hf t (by simp))
  · obtain ⟨ds, xs, rfl, _, hE⟩ := h
    simp only [D.noMem]
    refine hass_flat ds n _ (each_has _ _ _ hE) fun κ hκ => ?_
    simp only [List.mem_map] at hκ
    obtain ⟨t, ht, rfl⟩ := hκ
    exact hf t ht
variable {P : Program} {I : World → Prop} {gl : Nat}
theorem contract_flat (hgl : ∀ w, I w → gl ≤ w.heap.size) {f : Nat} {fn : Func} {run : List D → Option D} {n : Nat} {p : Bool}
    (hp : p = true → fn.resultTypes.toList.all (fun t => K.flat ty n (ty t)) = true)
    (hrun : ∀ ds r, D.hass ty ds (fn.params.toList.map ty) → run ds = some r → Comes P ty I gl f fn ds r finish) : Contract P ty I f fn { run := run, fresh := false, plain := p } := by
  have h0 : Contract P ty I f fn { run := run, fresh := false, plain := false } := contract_of hgl rfl hrun (by simp)
  intro X w ds xs r hIw hX hE hr
  refine (h0 X w ds xs r hIw hX hE hr).mono ?_
  rintro e w' ⟨v, rfl, hb, hres⟩
  refine ⟨v, rfl, hb, ?_⟩
  simp only [Bool.false_eq_true, if_false] at hres ⊢
  cases p with
  | false => simpa using hres
  | true =>
    simp only [if_true]
    exact fun M => noMem_res (res_flat hres (hp rfl)) hres
theorem has_int {d : D} {k : IntKind} (h : D.has ty d (.int k)) : ∃ n, d = .int k n := by
  cases d <;> simp [D.has, K.isAgg] at h
  subst h; exact ⟨_, rfl⟩
theorem has_bool {d : D} (h : D.has ty d .bool) : ∃ n, d = .bool n := by cases d <;> simp [D.has, K.isAgg] at h; exact ⟨_, rfl⟩
theorem has_str {d : D} (h : D.has ty d .str) : ∃ n, d = .str n := by cases d <;> simp [D.has, K.isAgg] at h; exact ⟨_, rfl⟩
theorem hass_nil {ds : List D} (h : D.hass ty ds []) : ds = [] := by cases ds <;> simp [D.hass] at h; rfl
theorem hass_cons {ds : List D} {κ : K} {κs : List K} (h : D.hass ty ds (κ :: κs)) : ∃ d ds', ds = d :: ds' ∧ D.has ty d κ ∧ D.hass ty ds' κs := by
  cases ds with
  | nil => simp [D.hass] at h
  | cons d ds =>
    simp only [D.hass] at h
    obtain ⟨κ', κs', hc, h1, h2⟩ := h
    simp only [List.cons.injEq] at hc
    obtain ⟨rfl, rfl⟩ := hc
    exact ⟨d, ds, rfl, h1, h2⟩
abbrev ArgT : K → Type
  | .str => ByteArray
  | .int _ => Int
  | .bool => Bool
  | _ => D
def argD : (κ : K) → ArgT κ → D
  | .str, x => .str x
  | .int k, x => .int k x
  | .bool, x => .bool x
  | .struct _, x => x
  | .array _ _, x => x
  | .slice _, x => x
  | .map _ _, x => x
  | .iface _, x => x
  | .ptr _, x => x
  | .func, x => x
  | .bad, x => x
def Args : List K → Type
  | [] => Unit
  | κ :: κs => ArgT κ × Args κs
def Args.ds : (κs : List K) → Args κs → List D
  | [], _ => []
  | κ :: κs, a => argD κ a.1 :: Args.ds κs a.2
theorem has_argD {d : D} : ∀ {κ : K}, D.has ty d κ → ∃ a : ArgT κ, d = argD κ a
  | .str, h => has_str h
  | .int _, h => has_int h
  | .bool, h => has_bool h
  | .struct _, _ => ⟨d, rfl⟩
  | .array _ _, _ => ⟨d, rfl⟩
  | .slice _, _ => ⟨d, rfl⟩
  | .map _ _, _ => ⟨d, rfl⟩
  | .iface _, _ => ⟨d, rfl⟩
  | .ptr _, _ => ⟨d, rfl⟩
  | .func, _ => ⟨d, rfl⟩
  | .bad, _ => ⟨d, rfl⟩
theorem hass_args : ∀ {κs : List K} {ds : List D}, D.hass ty ds κs → ∃ a : Args κs, ds = Args.ds κs a
  | [], _, h => ⟨(), hass_nil h⟩
  | κ :: κs, _, h => by
    obtain ⟨d, ds', rfl, h1, h2⟩ := hass_cons h
    obtain ⟨a, rfl⟩ := has_argD h1
    obtain ⟨b, rfl⟩ := hass_args h2
    exact ⟨(a, b), rfl⟩
theorem okC (hgl : ∀ w, I w → gl ≤ w.heap.size) {E : Env} {T : Tbl} {f n dp : Nat} {fn : Func} {run : List D → Option D} {p : Bool} {κs : List K} {ts : List Nat}
    (hs : fn.params.toList.map ty = κs) (hr : fn.resultTypes.toList = ts) (hp : (!p || ts.all fun t => K.flat ty n (ty t)) = true) (hE : EnvOk P E I gl) (hty : E.ty = ty) (hT : AllOk E T)
    (h : ∀ a : Args κs, callS E T dp (.fn f) (List.zipWith V.d κs (Args.ds κs a)) [] (fun v H => finish ty ts v H) = run (Args.ds κs a)) : Contract P ty I f fn { run := run, plain := p } := by
  subst hs hr
  refine contract_flat (n := n) hgl (fun h' => by subst h'; simpa using hp) (fun ds r hh hr => ?_)
  obtain ⟨a, rfl⟩ := hass_args hh
  exact ⟨E, dp, T, hE, hty, hT, (h a).trans hr⟩
theorem okF (hgl : ∀ w, I w → gl ≤ w.heap.size) {E : Env} {T : Tbl} {f dp : Nat} {fn : Func} {run : List D → Option D} {κs : List K} {ts : List Nat}
    (hs : fn.params.toList.map ty = κs) (hr : fn.resultTypes.toList = ts) (hE : EnvOk P E I gl) (hty : E.ty = ty) (hT : AllOk E T)
    (h : ∀ a : Args κs, callS E T dp (.fn f) (List.zipWith V.d κs (Args.ds κs a)) [] (fun v H => finishFresh ty ts v H) = run (Args.ds κs a)) : Contract P ty I f fn { run := run, fresh := true } := by
  subst hs hr
  refine contract_of_fresh hgl rfl rfl (fun ds r hh hr => ?_)
  obtain ⟨a, rfl⟩ := hass_args hh
  exact ⟨E, dp, T, hE, hty, hT, (h a).trans hr⟩
end
end Go.AM
namespace Go.AM
open Go Go.RowKit Go.Proofs
section
variable {P : Program} {ρ : Go.Shelf.Ren} {ty : Nat → K} {cd : Cd} {I : World → Prop} {gl : Nat}
def decodeC : Con := { run := fun ds => match ds with | [d] => some (.tup [.int .i32 (Lib.decodeGo d.s).1, .int .i64 (Lib.decodeGo d.s).2]) | _ => none, plain := true }
theorem decodeC_ok (L : Lays.n197 P ρ) (hI : ∀ w, I w → Lib.Utf8Tabs (ρ.g 3) (ρ.g 4) w) {fn : Func} {t5 t3 : Nat} (hp : fn.params.toList.map ty = [.str]) (hr : fn.resultTypes.toList = [t5, t3]) (h5 : ty t5 = .int .i32) (h3 : ty t3 = .int .i64) :
    Contract P ty I (ρ.f 197) fn decodeC := by
  intro X w ds xs r hIw hX hE hrun
  rw [hp] at hE
  match ds, hE with
  | [d], hE =>
    simp only [Each] at hE
    obtain ⟨κ, κs', x, rest, he, rfl, hx, hn, rfl⟩ := hE
    simp only [List.cons.injEq] at he
    obtain ⟨rfl, _⟩ := he
    have hs := rep_str hx
    subst hs
    simp only [decodeC, Option.some.injEq] at hrun
    subst hrun
    refine (Any.utf8_DecodeRuneInString L d.s w (hI w hIw)).mono ?_
    rintro e w' ⟨rfl, hb⟩
    refine ⟨_, rfl, hb, ?_⟩
    have hpl : decodeC.plain = true := rfl
    rw [if_pos hpl]
    intro M
    rw [hr]
    refine ⟨_, _, rfl, rfl, ?_⟩
    simp only [List.map_cons, List.map_nil, h5, h3, Each, Rep]
    exact ⟨_, _, _, _, rfl, rfl, ⟨rfl, rfl⟩, _, _, _, _, rfl, rfl, ⟨rfl, rfl⟩, rfl, rfl⟩
  | [], hE => simp [Each] at hE
  | d1 :: d2 :: ds, hE =>
    simp only [Each] at hE
    obtain ⟨κ, κs', x, rest, he, rfl, hx, κ2, κs2, x2, r2, h2, _⟩ := hE
    rw [h2] at he
    simp at he
def insertX (e : Nat) : Ext := fun args H => match args with
  | [s, .d (.int .i64) x, .sref b2 off2 len2] => match H[b2]? with
    | some (.row e2 _ _ ds2) =>
        match s with
        | .sref b off len => match H[b]? with
          | some (.row e1 true _ ds) =>
            some ((decide (e2 = e) && decide (0 < len2)) && (decide (e1 = e) && decide (b ≠ b2) && decide (0 ≤ x.i) && decide (x.i ≤ (len : Int)) && decide (len + len2 ≤ maxLen)),
              .sref H.length 0 (len + len2), H.set b .dead ++ [.row e true true (((ds.drop off).take len).take x.i.toNat ++ (ds2.drop off2).take len2 ++ ((ds.drop off).take len).drop x.i.toNat)])
          | _ => none
        | .d (.slice e1) (.slice false []) => some ((decide (e2 = e) && decide (0 < len2)) && (decide (e1 = e) && decide (x.i = 0) && decide (len2 ≤ maxLen)), .sref H.length 0 len2, H ++ [.row e true true ((ds2.drop off2).take len2)])
        | _ => none
    | _ => none
  | _ => none
theorem setCells_put {b : Nat} {et : Nat} {fz : Nat × Nat} : ∀ (vs : List Value) (o : Nat) (pre mid post : List Value) (w : World), w.heap[b]? = some (.cells (pre ++ mid ++ post).toArray et fz) → mid.length = vs.length → pre.length = o →
    w.setCells b o vs = putBlk w b (.cells (pre ++ vs ++ post).toArray et fz)
  | [], o, pre, mid, post, w, h, hm, hp => by
    have : mid = [] := by simpa using hm
    subst this
    rw [World.setCells, putBlk_same h]
  | v :: vs, o, pre, mid, post, w, h, hm, hp => by
    cases mid with
    | nil => simp at hm
    | cons m mid =>
      have h1 := setCell_put (o := o) (v := v) h
      have h2 : (pre ++ m :: mid ++ post).toArray.setIfInBounds o v = ((pre ++ [v]) ++ mid ++ post).toArray := by
        apply Array.toList_inj.1
        simp [List.set_append, ← hp]
      rw [h2] at h1
      rw [World.setCells, h1]
      rw [setCells_put vs (o + 1) (pre ++ [v]) mid post _ (by rw [putBlk_heap, if_pos ⟨rfl, lt_of_block h⟩]) (by simpa using hm) (by simp [hp])]
      simp [putBlk]
theorem below_da (w : World) (o : Obj) : Below w.heap.size w (w.drew.alloc o) :=
  ⟨rfl, rfl, rfl, by show w.heap.size ≤ (w.heap.push o).size; simp, fun k hk => by show (w.heap.push o)[k]? = _; rw [Array.getElem?_push, if_neg (by omega)]⟩
theorem heap_da (w : World) (o : Obj) : (w.drew.alloc o).heap[w.heap.size]? = some o := by show (w.heap.push o)[w.heap.size]? = _; simp
theorem oneCell_of_scal {v : Value} (h : AM.scal v = true) : v.oneCell' = true := by cases v <;> simp_all [AM.scal, Value.oneCell']
theorem insertX_ok (T : TyOk P ty) (L : Lays2.n22 P ρ) {e : Nat} (he : ty e = .str) : ExtOk P ty I gl (ρ.f 22) (insertX e) := by
  intro cd X B0 w0 μ H w args v H' xs _ _ h hargs hrun
  have hone : P.cellsOf e = 1 := by rw [T.szOk e (by rw [he]; simp), he]; rfl
  have hne : ty e ≠ .bad := by rw [he]; simp
  unfold insertX at hrun
  split at hrun
  · rename_i s x b2 off2 len2
    simp only [RVt] at hargs
    obtain ⟨sv, _, rfl, hs, iv, _, rfl, hi, vv, _, rfl, hv, rfl⟩ := hargs
    replace hi := hi.resolve_left (by simp)
    obtain ⟨_, hi⟩ := hi
    simp only [RV] at hi
    have hiv := rep_int (hi.1 ▸ hi.2)
    replace hv := hv.resolve_left (by simp)
    obtain ⟨_, hv⟩ := hv
    simp only [RV] at hv
    obtain ⟨l2, n2, e2, hμ2, hl2, _, hlen2, hv⟩ := hv
    split at hrun
    · rename_i e2x own2 nn2 ds2 hH2
      obtain ⟨rfl, rfl⟩ := row_loc h hH2 hμ2 hl2
      have hobj2 := h.obj b2 l2 _ hμ2 hH2
      have hc2 : e2 = e ∧ 0 < len2 := by
        split at hrun
        · split at hrun
          · simp only [Option.some.injEq, Prod.mk.injEq, Bool.and_eq_true, decide_eq_true_eq] at hrun
            exact hrun.1.1
          · simp at hrun
        · simp only [Option.some.injEq, Prod.mk.injEq, Bool.and_eq_true, decide_eq_true_eq] at hrun
          exact hrun.1.1
        · simp at hrun
      obtain ⟨rfl, hpos⟩ := hc2
      have hvirt2 : l2.virt = false := by
        rcases hv with ⟨_, h0, _⟩ | ⟨h0, _⟩ | ⟨h0, _⟩
        · omega
        · exact h0
        · exact h0
      obtain ⟨c2, hvv, hc21, hc22, hre2⟩ : ∃ c, vv = .slice (some ⟨l2.blk, l2.base + off2 * P.cellsOf e2, none⟩) len2 c ∧ len2 ≤ c ∧ off2 + c ≤ l2.cap ∧ ds2.length ≤ off2 + c := by
        rcases hv with ⟨h0, _⟩ | ⟨_, c, h1⟩ | ⟨_, h0, _⟩
        · rw [hvirt2] at h0; simp at h0
        · exact ⟨c, h1⟩
        · omega
      subst hvv
      simp only [ObjOk] at hobj2
      obtain ⟨_, _, _, hobj2⟩ := hobj2
      rw [if_neg (by simp [hvirt2])] at hobj2
      obtain ⟨_, hcap2, cs2, et2, fz2, pre2, mid2, post2, hb2, hcs2, hpre2, hrep2, hpost2, hfz2⟩ := hobj2
      obtain ⟨p1, vs, p2, e2a, l2a, l2b, hvs, _, _⟩ := Reps.drop_take T.szOk hne hrep2 hlen2
      rw [hone] at l2a l2b
      simp only [Nat.mul_one] at l2a l2b
      have hvsc : ∀ v ∈ vs, v.oneCell' = true := fun v hv => oneCell_of_scal (Reps.scal _ _ _ _ hvs v hv)
      have hvcell : ∀ (w' : World), w'.heap[l2.blk]? = w.heap[l2.blk]? → ∀ (j : Nat) (v : Value), vs[j]? = some v → w'.cell? ⟨l2.blk, l2.base + off2 * P.cellsOf e2 + j, none⟩ = some v := by
        intro w' hw' j v hj
        rw [cell_congr hw']
        have := block_cells hb2 (c1 := pre2 ++ p1) (y := vs) (c2 := p2 ++ post2) (by rw [hcs2, e2a]; simp) j v hj
        simpa [hpre2, l2a, hone, Nat.add_assoc] using this
      split at hrun
      · rename_i b off len
        replace hs := hs.resolve_left (by simp)
        obtain ⟨_, hs⟩ := hs
        simp only [RV] at hs
        obtain ⟨l, n, e1, hμ, hl, _, hlen, hs⟩ := hs
        split at hrun
        · rename_i e1x nn ds hH
          obtain ⟨rfl, rfl⟩ := row_loc h hH hμ hl
          simp only [Option.some.injEq, Prod.mk.injEq, Bool.and_eq_true, decide_eq_true_eq] at hrun
          obtain ⟨⟨_, ⟨⟨⟨rfl, hbb⟩, hx0⟩, hxl⟩, hmax⟩, hrun⟩ := hrun
          obtain ⟨rfl, rfl⟩ := hrun
          unfold maxLen at hmax
          obtain ⟨i, hxi⟩ : ∃ i : Nat, x.i = (i : Int) := ⟨x.i.toNat, by omega⟩
          rw [hxi] at hiv hxl
          rw [hxi]
          simp only [Int.toNat_natCast]
          subst hiv
          have hil : i ≤ len := by omega
          have hobj := h.obj b l _ hμ hH
          obtain ⟨hd1, hd2⟩ := h.less hμ hH (o' := .dead) (by simp [ownB]) (by simp [usesB]) (fun _ _ => trivial)
          have hdl : (H.set b .dead).length = H.length := by simp
          have hdlen : ((ds.drop off).take len).length = len := by simp; omega
          have hvlen : ((ds2.drop off2).take len2).length = len2 := by simp; omega
          have hnew : (((ds.drop off).take len).take i ++ (ds2.drop off2).take len2 ++ ((ds.drop off).take len).drop i).length = len + len2 := by
            simp only [List.length_append, List.length_take, List.length_drop]; omega
          have hgrow : ∀ (w' : World) (cap : Nat) (mid post : List Value) (et : Nat), Below w.heap.size w w' → w'.heap[w.heap.size]? = some (.cells (mid ++ post).toArray et (0, 0)) →
              Reps ty (M_ X μ H w) (((ds.drop off).take len).take i ++ (ds2.drop off2).take len2 ++ ((ds.drop off).take len).drop i) (List.replicate (len + len2) (ty e1)) mid → len + len2 ≤ cap ∧ cap ≤ maxInt → cap - (len + len2) ≤ post.length →
              ∃ y μ', Ending.returned (.slice (some ⟨w.heap.size, 0, none⟩) (len + len2) cap) = Ending.returned y ∧ HOk ty P.cellsOf cd X B0 w0 μ' (H.set b .dead ++ [.row e1 true true (((ds.drop off).take len).take i ++ (ds2.drop off2).take len2 ++ ((ds.drop off).take len).drop i)]) w' ∧
                RR ty P.cellsOf (M_ X μ' (H.set b .dead ++ [.row e1 true true (((ds.drop off).take len).take i ++ (ds2.drop off2).take len2 ++ ((ds.drop off).take len).drop i)]) w') μ' (.sref H.length 0 (len + len2)) y ∧
                Fut X B0 μ.length μ H w μ' (H.set b .dead ++ [.row e1 true true (((ds.drop off).take len).take i ++ (ds2.drop off2).take len2 ++ ((ds.drop off).take len).drop i)]) w' := by
            intro w' cap mid post et hb hblk hreps hcap hpost
            obtain ⟨g1, g2, g3⟩ := newRow_adopt hd1 hb (blk := w.heap.size) (e := e1) (cap := cap) (et := et) (fz := (0, 0)) (cs := (mid ++ post).toArray) (ds := ((ds.drop off).take len).take i ++ (ds2.drop off2).take len2 ++ ((ds.drop off).take len).drop i) (mid := mid) (post := post)
              (Nat.le_refl _) hblk hne rfl (fun M' hM => by rw [hnew]; exact Reps.mono _ (Mem.le_trans hd2.mem hM) _ _ _ hreps) (by rw [hnew]; exact hcap) (by rw [hnew, hone]; omega) (by simp)
            rw [hnew] at g1 g2 g3
            rw [hdl] at g3
            exact ⟨_, _, rfl, g1, g3, ⟨g2.loc, g2.len, Mem.le_trans hd2.mem g2.mem, g2.below, g2.dfr⟩⟩
          have hempty : ∀ (base : Option Addr), len = 0 → Calls P (ρ.f 22) #[.slice base 0 0, .int .i64 (0 : Nat), .slice (some ⟨l2.blk, l2.base + off2 * P.cellsOf e1, none⟩) len2 c2] w fun e w' => ∃ y μ', e = .returned y ∧ HOk ty P.cellsOf cd X B0 w0 μ' (H.set b .dead ++ [.row e1 true true (((ds.drop off).take len).take i ++ (ds2.drop off2).take len2 ++ ((ds.drop off).take len).drop i)]) w' ∧
                RR ty P.cellsOf (M_ X μ' (H.set b .dead ++ [.row e1 true true (((ds.drop off).take len).take i ++ (ds2.drop off2).take len2 ++ ((ds.drop off).take len).drop i)]) w') μ' (.sref H.length 0 (len + len2)) y ∧
                Fut X B0 μ.length μ H w μ' (H.set b .dead ++ [.row e1 true true (((ds.drop off).take len).take i ++ (ds2.drop off2).take len2 ++ ((ds.drop off).take len).drop i)]) w' := by
            intro base hl0
            subst hl0
            obtain rfl : i = 0 := by omega
            refine (Any2.slices_Insert_string_end_grow L base 0 0 l2.blk (l2.base + off2 * P.cellsOf e1) len2 c2 [] vs w hpos (Nat.le_refl _) (by omega) (by omega) rfl l2b (fun _ => rfl) (fun _ _ j v hj => by simp at hj) (hvcell w rfl) hvsc).mono ?_
            rintro e w' ⟨rfl, rfl⟩
            have hcap := cap_ge (0 + len2) 0 (ρ.t 9) (w.tape w.drawn (.appendCap (0 + len2) 0 (ρ.t 9)))
            have hcapm := cap_le (0 + len2) 0 (ρ.t 9) (w.tape w.drawn (.appendCap (0 + len2) 0 (ρ.t 9))) (by unfold maxLen; omega)
            refine hgrow _ _ vs (Builtin.zeroCells (Value.string ⟨#[]⟩).cells (grownCap w (0 + len2) 0 (ρ.t 9) - (0 + len2))).toList (ρ.t 9) (below_da _ _) ?_ ?_ ⟨hcap, hcapm⟩ (by simp [Builtin.zeroCells, Value.cells])
            · rw [heap_da]; simp
            · simpa using hvs
          rcases hs with ⟨hvirt, hl0, a, rfl, ha⟩ | ⟨hvirt, c, rfl, hc, hoc, hreach⟩ | ⟨hvirt, hl0, hreach, ad, rfl⟩
          · obtain rfl : i = 0 := by omega
            exact hempty a hl0
          · have hob := hobj
            simp only [ObjOk] at hob
            obtain ⟨_, hlnn, _, hob⟩ := hob
            rw [if_neg (by simp [hvirt])] at hob
            obtain ⟨hnn, hcap, cs, et, fz, pre, mid, post, hb1, hcs, hpre, hrep, hpost, hfz⟩ := hob
            obtain ⟨q1, os, q2, e1a, l1a, l1b, hos, _, hq2⟩ := Reps.drop_take T.szOk hne hrep hlen
            have hq2l : q2.length = ds.length - (off + len) := by
              have := (Reps.size T.szOk _ _ _ hq2).2 (List.replicate (ds.length - (off + len)) e1) (by simp)
              simpa [hone] using this
            have hpl : l.cap - ds.length ≤ post.length := by rw [hone] at hpost; omega
            rw [hone] at l1a l1b
            simp only [Nat.mul_one] at l1a l1b
            have hosc : ∀ v ∈ os, v.oneCell' = true := fun v hv => oneCell_of_scal (Reps.scal _ _ _ _ hos v hv)
            have hblk : w.heap[l.blk]? = some (.cells ((pre ++ q1) ++ os ++ (q2 ++ post)).toArray et fz) := by
              rw [hb1]; congr 2; apply Array.toList_inj.1; rw [hcs, e1a]; simp
            have hcell : ∀ (w' : World), w'.heap[l.blk]? = w.heap[l.blk]? → ∀ (j : Nat) (v : Value), os[j]? = some v → w'.cell? ⟨l.blk, l.base + off * P.cellsOf e1 + j, none⟩ = some v := by
              intro w' hw' j v hj
              rw [cell_congr hw']
              have := block_cells hblk (c1 := pre ++ q1) (y := os) (c2 := q2 ++ post) (by simp) j v hj
              simpa [hpre, l1a, hone, Nat.add_assoc] using this
            have hp0 : (pre ++ q1).length = l.base + off * P.cellsOf e1 := by simp [hpre, l1a, hone]
            have hroomlen : c - len ≤ (q2 ++ post).length := by rw [List.length_append, hq2l]; omega
            have hcsz : cs.size = ((pre ++ q1) ++ os ++ (q2 ++ post)).length := by
              have h1 : cs.size = cs.toList.length := by simp
              rw [h1, hcs, e1a]; simp
            have hcf : ∀ j, j < c → (w.cell? ⟨l.blk, l.base + off * P.cellsOf e1 + j, none⟩).isSome = true ∧ w.frozen? ⟨l.blk, l.base + off * P.cellsOf e1 + j, none⟩ = false := by
              intro j hj
              have hlt : l.base + off * P.cellsOf e1 + j < ((pre ++ q1) ++ os ++ (q2 ++ post)).length := by
                rw [List.length_append, List.length_append, hp0, l1b]; omega
              constructor
              · rw [cell_of_block hblk]; simp only [List.getElem?_toArray]; rw [List.getElem?_eq_getElem hlt]; rfl
              · rw [frozen_of_block hblk]
                have := hfz (l.base + off * P.cellsOf e1 + j) (by rw [hcsz]; exact Nat.lt_add_right _ hlt)
                simp at this ⊢; omega
            have hnb : l2.blk ≠ l.blk := by
              intro hEq
              have h1 : Own μ H b l.blk := ⟨l, _, hμ, hH, by simp [ownB, hvirt]⟩
              have h2 : Uses μ H b2 l.blk := ⟨l2, _, hμ2, hH2, by simp [usesB, hvirt2, hEq]⟩
              exact hbb (h.inj _ _ _ h1 h2)
            have hreps : Reps ty (M_ X μ H w) (((ds.drop off).take len).take i ++ (ds2.drop off2).take len2 ++ ((ds.drop off).take len).drop i) (List.replicate (len + len2) (ty e1)) (os.take i ++ vs ++ os.drop i) := by
              have hos' : Reps ty (M_ X μ H w) ((ds.drop off).take len) (List.replicate ((ds.drop off).take len).length (ty e1)) os := by rw [hdlen]; exact hos
              obtain ⟨r1, r2, r3, er, lr1, lr2, hr2, hr1, hr3⟩ := Reps.drop_take T.szOk hne hos' (i := i) (n := 0) (by rw [hdlen]; omega)
              rw [hone] at lr1 lr2
              have hr20 : r2 = [] := List.eq_nil_of_length_eq_zero (by simpa using lr2)
              subst hr20
              have ht : os.take i = r1 := by rw [er, List.append_nil]; exact List.take_left' (by simpa using lr1)
              have hd : os.drop i = r3 := by rw [er, List.append_nil]; exact List.drop_left' (by simpa using lr1)
              rw [ht, hd]
              rw [hdlen] at hr3
              have ek : List.replicate (len + len2) (ty e1) = List.replicate i (ty e1) ++ List.replicate len2 (ty e1) ++ List.replicate (len - (i + 0)) (ty e1) := by
                rw [List.replicate_append_replicate, List.replicate_append_replicate]; congr 1; omega
              rw [ek]
              exact (hr1.append hvs).append (by simpa using hr3)
            have hin : ∀ (w' : World) (post' : List Value), len + len2 ≤ c → (∃ k, w' = putBlk { w with drawn := k } l.blk (.cells ((pre ++ q1) ++ (os.take i ++ vs ++ os.drop i) ++ post').toArray et fz)) → c - (len + len2) ≤ post'.length → ((pre ++ q1) ++ (os.take i ++ vs ++ os.drop i) ++ post').length = cs.size →
                ∃ y μ', Ending.returned (.slice (some ⟨l.blk, l.base + off * P.cellsOf e1, none⟩) (len + len2) c) = Ending.returned y ∧ HOk ty P.cellsOf cd X B0 w0 μ' (H.set b .dead ++ [.row e1 true true (((ds.drop off).take len).take i ++ (ds2.drop off2).take len2 ++ ((ds.drop off).take len).drop i)]) w' ∧
                RR ty P.cellsOf (M_ X μ' (H.set b .dead ++ [.row e1 true true (((ds.drop off).take len).take i ++ (ds2.drop off2).take len2 ++ ((ds.drop off).take len).drop i)]) w') μ' (.sref H.length 0 (len + len2)) y ∧
                Fut X B0 μ.length μ H w μ' (H.set b .dead ++ [.row e1 true true (((ds.drop off).take len).take i ++ (ds2.drop off2).take len2 ++ ((ds.drop off).take len).drop i)]) w' := by
              intro w' post' hroom hw' hpost' hsz
              obtain ⟨k, rfl⟩ := hw'
              have hbel : Below w.heap.size w { w with drawn := k } := ⟨rfl, rfl, rfl, Nat.le_refl _, fun _ _ => rfl⟩
              obtain ⟨f1, f2⟩ := h.grow hbel
              obtain ⟨g1, g2⟩ := HOk.killPut f1 (l' := ⟨l.blk, l.base + off * P.cellsOf e1, c, .array (len + len2) e1, false, true⟩) (o' := .row e1 true true (((ds.drop off).take len).take i ++ (ds2.drop off2).take len2 ++ ((ds.drop off).take len).drop i))
                (obj := .cells ((pre ++ q1) ++ (os.take i ++ vs ++ os.drop i) ++ post').toArray et fz) hμ hH (by simp [ownB, hvirt]) (by simp [ownB]) (fun M' hM => by
                  simp only [ObjOk]
                  refine ⟨by rw [hnew], trivial, hne, ?_⟩
                  rw [if_neg (by simp)]
                  refine ⟨trivial, by rw [hnew]; omega, ((pre ++ q1) ++ (os.take i ++ vs ++ os.drop i) ++ post').toArray, et, fz, pre ++ q1, os.take i ++ vs ++ os.drop i, post', ?_, by simp, hp0, ?_, ?_, ?_⟩
                  · rw [putBlk_heap, if_pos ⟨rfl, lt_of_block hb1⟩]
                  · rw [hnew]; exact Reps.mono _ (Mem.le_trans f2.mem hM) _ _ _ hreps
                  · rw [hnew, hone]; simpa using hpost'
                  · intro o ho
                    exact hfz o (by rw [← hsz]; simpa using ho))
              refine ⟨_, _, rfl, g1, .inr ⟨.slice e1, ?_⟩, Fut.trans (Nat.le_refl _) f2 g2⟩
              simp only [RV]
              refine ⟨⟨l.blk, l.base + off * P.cellsOf e1, c, .array (len + len2) e1, false, true⟩, len + len2, e1, ?_, rfl, rfl, by omega, .inr (.inl ⟨rfl, c, by simp, hroom, by simp, by simpa using hroom⟩)⟩
              rw [← h.len]; simp
            by_cases hend : i = len
            · subst hend
              have htk : os.take i = os := List.take_of_length_le (by omega)
              have hdk : os.drop i = [] := List.drop_of_length_le (by omega)
              by_cases hroom : i + len2 ≤ c
              · have hseg : ((q2 ++ post).take len2).length = vs.length := by rw [List.length_take, l2b]; omega
                have hput := fun (w1 : World) (hw1 : w1.heap[l.blk]? = w.heap[l.blk]?) => setCells_put (b := l.blk) vs (l.base + off * P.cellsOf e1 + i) ((pre ++ q1) ++ os) ((q2 ++ post).take len2) ((q2 ++ post).drop len2) w1 (by rw [hw1, hblk, List.append_assoc ((pre ++ q1) ++ os), List.take_append_drop]) hseg (by rw [List.length_append, hp0, l1b])
                refine (Any2.slices_Insert_string_end_room L l.blk (l.base + off * P.cellsOf e1) i c l2.blk (l2.base + off2 * P.cellsOf e1) len2 c2 vs w hpos hroom (by
                  unfold maxInt at hcap; omega) l2b (fun j hj => by rw [Nat.add_assoc]; exact (hcf (i + j) (by omega)).1) (fun j hj => by rw [Nat.add_assoc]; exact (hcf (i + j) (by omega)).2) (hvcell w rfl) hvsc).mono ?_
                rintro e w' ⟨rfl, rfl⟩
                refine hin _ ((q2 ++ post).drop len2) hroom ⟨w.drawn, ?_⟩ (by rw [List.length_drop]; omega) ?_
                · rw [hput w rfl]
                  rw [htk, hdk]
                  simp
                · rw [hcsz, htk, hdk]
                  simp only [List.length_append, List.length_drop, List.length_nil, l2b] at hroomlen ⊢; omega
              · refine (Any2.slices_Insert_string_end_grow L (some ⟨l.blk, l.base + off * P.cellsOf e1, none⟩) i c l2.blk (l2.base + off2 * P.cellsOf e1) len2 c2 os vs w hpos hc (by omega) (by omega) l1b l2b (fun h0 => by simp at h0)
                  (fun ad had j v hj => by simp only [Option.some.injEq] at had; subst had; rw [addr_add rfl]; exact hcell w rfl j v hj) (hvcell w rfl) hvsc).mono ?_
                rintro e w' ⟨rfl, rfl⟩
                have hcap := cap_ge (i + len2) c (ρ.t 9) (w.tape w.drawn (.appendCap (i + len2) c (ρ.t 9)))
                have hcapm := cap_le (i + len2) c (ρ.t 9) (w.tape w.drawn (.appendCap (i + len2) c (ρ.t 9))) (by unfold maxLen; omega)
                refine hgrow _ _ (os.take i ++ vs ++ os.drop i) (Builtin.zeroCells (Value.string ⟨#[]⟩).cells (grownCap w (i + len2) c (ρ.t 9) - (i + len2))).toList (ρ.t 9) (below_da _ _) ?_ hreps ⟨hcap, hcapm⟩ (by simp [Builtin.zeroCells, Value.cells])
                rw [heap_da, htk, hdk]
                simp
            · have hilt : i < len := by omega
              by_cases hroom : len + len2 ≤ c
              · refine (Any2.slices_Insert_string_shift L l.blk (l.base + off * P.cellsOf e1) len c i l2.blk (l2.base + off2 * P.cellsOf e1) len2 c2 os vs w hilt hpos hroom (by unfold maxInt at hcap; omega) hnb l1b l2b
                  (hcell w rfl) (fun j hj => (hcf j (by omega)).1) (fun j hj => (hcf j (by omega)).2) (hvcell w rfl) hosc hvsc et2 et cs2.size cs.size (by simp [World.shape?, hb2]) (by simp [World.shape?, hb1]) (by rw [hcsz]; simp only [List.length_append, l1b]; omega) ?_ ?_).mono ?_
                · rw [frozen_of_block hb2]
                  have := hfz2 (l2.base + off2 * P.cellsOf e1) (by
                    have h1 : cs2.size = cs2.toList.length := by simp
                    rw [h1, hcs2, e2a, hone]; simp only [List.length_append, hpre2, l2a, l2b]; omega)
                  simp at this ⊢; omega
                · rw [frozen_of_block hb2]
                  have := hfz2 cs2.size (by rw [he]; simp [slk])
                  simp at this ⊢; omega
                rintro e w' ⟨rfl, rfl⟩
                have hT : (os.drop i ++ (q2 ++ post)).length = (len - i) + (q2 ++ post).length := by rw [List.length_append, List.length_drop, l1b]
                have hput1 := setCells_put (b := l.blk) (os.drop i) (l.base + off * P.cellsOf e1 + (i + len2)) ((pre ++ q1) ++ os.take i ++ (os.drop i ++ (q2 ++ post)).take len2) (((os.drop i ++ (q2 ++ post)).drop len2).take (len - i)) ((os.drop i ++ (q2 ++ post)).drop (len2 + (len - i))) w.drew
                  (et := et) (fz := fz) (by
                    show w.heap[l.blk]? = _
                    rw [hblk]; congr 2; apply Array.toList_inj.1
                    show (pre ++ q1) ++ os ++ (q2 ++ post) = (pre ++ q1) ++ os.take i ++ (os.drop i ++ (q2 ++ post)).take len2 ++ ((os.drop i ++ (q2 ++ post)).drop len2).take (len - i) ++ (os.drop i ++ (q2 ++ post)).drop (len2 + (len - i))
                    rw [← List.drop_drop, List.append_assoc _ (((os.drop i ++ (q2 ++ post)).drop len2).take (len - i)), List.take_append_drop, List.append_assoc _ ((os.drop i ++ (q2 ++ post)).take len2), List.take_append_drop, List.append_assoc (pre ++ q1), List.append_assoc (pre ++ q1), ← List.append_assoc (os.take i), List.take_append_drop])
                  (by rw [List.length_take, List.length_drop, List.length_drop, hT, l1b]; omega) (by rw [List.length_append, List.length_append, hp0, List.length_take, List.length_take, hT, l1b]; omega)
                rw [hput1]
                have hput2 := setCells_put (b := l.blk) vs (l.base + off * P.cellsOf e1 + i) ((pre ++ q1) ++ os.take i) ((os.drop i ++ (q2 ++ post)).take len2) (os.drop i ++ (os.drop i ++ (q2 ++ post)).drop (len2 + (len - i))) (putBlk w.drew l.blk (.cells ((pre ++ q1) ++ os.take i ++ (os.drop i ++ (q2 ++ post)).take len2 ++ os.drop i ++ (os.drop i ++ (q2 ++ post)).drop (len2 + (len - i))).toArray et fz))
                  (et := et) (fz := fz) (by rw [putBlk_heap, if_pos ⟨rfl, lt_of_block (w := w.drew) hb1⟩]; simp) (by rw [List.length_take, hT, l2b]; omega) (by rw [List.length_append, hp0, List.length_take, l1b]; omega)
                rw [hput2]
                refine hin _ ((os.drop i ++ (q2 ++ post)).drop (len2 + (len - i))) hroom ⟨w.drawn + 1, ?_⟩ (by rw [List.length_drop, hT]; omega) ?_
                · show putBlk (putBlk w.drew _ _) _ _ = putBlk w.drew _ _
                  simp [putBlk]
                · rw [hcsz]; simp only [List.length_append, List.length_drop, List.length_take, l1b, l2b] at hT hroomlen ⊢; omega
              · refine (Any2.slices_Insert_string_grow L l.blk (l.base + off * P.cellsOf e1) len c i l2.blk (l2.base + off2 * P.cellsOf e1) len2 c2 os vs w hilt hpos hc (by omega) (by omega) l1b l2b (hcell w rfl) (hvcell w rfl) hosc hvsc).mono ?_
                rintro e w' ⟨rfl, rfl⟩
                have hcap := cap_ge (len + len2) c (ρ.t 9) (w.tape w.drawn (.appendCap (len + len2) c (ρ.t 9)))
                have hcapm := cap_le (len + len2) c (ρ.t 9) (w.tape w.drawn (.appendCap (len + len2) c (ρ.t 9))) (by unfold maxLen; omega)
                have hdr : ∀ (w1 : World) (cs : Array Value) (t : Nat), (w1.alloc (.cells cs t)).drew.heap[w1.heap.size]? = some (.cells cs t (0, 0)) := by
                  intro w1 cs t; show (w1.heap.push _)[w1.heap.size]? = _; simp
                have hz : ∀ n, (Builtin.zeroCells (Value.string ⟨#[]⟩).cells n).toList.length = n := by intro n; simp [Builtin.zeroCells, Value.cells]
                generalize hZ1 : Builtin.zeroCells (Value.string ⟨#[]⟩).cells (len + len2 - i) = Z1
                generalize hZ2 : Builtin.zeroCells (Value.string ⟨#[]⟩).cells (grownCap w (len + len2) c (ρ.t 9) - (len + len2)) = Z2
                have hz1 : Z1.toList.length = len + len2 - i := by rw [← hZ1]; exact hz _
                have hz2 : Z2.toList.length = grownCap w (len + len2) c (ρ.t 9) - (len + len2) := by rw [← hZ2]; exact hz _
                have hput1 := setCells_put (b := w.heap.size) vs i (os.take i) (Z1.toList.take len2) (Z1.toList.drop len2 ++ Z2.toList) (w.alloc (.cells ((os.take i).toArray ++ Z1 ++ Z2) (ρ.t 9))).drew
                  (et := ρ.t 9) (fz := (0, 0)) (by rw [hdr]; congr 2; apply Array.toList_inj.1; simp only [Array.toList_append, List.append_assoc]; rw [← List.append_assoc (Z1.toList.take len2), List.take_append_drop])
                  (by rw [List.length_take, hz1, l2b]; omega) (by rw [List.length_take, l1b]; omega)
                rw [hput1]
                have hput2 := setCells_put (b := w.heap.size) (os.drop i) (i + len2) (os.take i ++ vs) (Z1.toList.drop len2) Z2.toList (putBlk (w.alloc (.cells ((os.take i).toArray ++ Z1 ++ Z2) (ρ.t 9))).drew w.heap.size (.cells (os.take i ++ vs ++ (Z1.toList.drop len2 ++ Z2.toList)).toArray (ρ.t 9) (0, 0))).drew
                  (et := ρ.t 9) (fz := (0, 0)) (by show (putBlk _ _ _).heap[_]? = _; rw [putBlk_heap, if_pos ⟨rfl, lt_of_block (hdr _ _ _)⟩]; simp)
                  (by rw [List.length_drop, List.length_drop, hz1, l1b]; omega) (by rw [List.length_append, List.length_take, l1b, l2b]; omega)
                rw [hput2]
                refine hgrow _ _ (os.take i ++ vs ++ os.drop i) Z2.toList (ρ.t 9) ?_ ?_ hreps ⟨hcap, hcapm⟩ (by rw [hz2]; exact Nat.le_refl _)
                · refine ⟨rfl, rfl, rfl, ?_, fun k hk => ?_⟩
                  · show w.heap.size ≤ (((w.heap.push _).setIfInBounds _ _).setIfInBounds _ _).size
                    simp
                  · show (((w.heap.push _).setIfInBounds _ _).setIfInBounds _ _)[k]? = _
                    simp only [Array.getElem?_setIfInBounds, Array.getElem?_push]
                    rw [if_neg (by omega), if_neg (by omega), if_neg (by omega)]
                · rw [putBlk_heap, if_pos ⟨rfl, lt_of_block (w := (putBlk _ _ _).drew) (by show (putBlk _ _ _).heap[_]? = _; rw [putBlk_heap, if_pos ⟨rfl, lt_of_block (hdr _ _ _)⟩])⟩]
          · obtain rfl : i = 0 := by omega
            exact hempty (some ad) hl0
        · simp at hrun
      · rename_i e1
        replace hs := hs.resolve_left (by simp)
        obtain ⟨_, hs⟩ := hs
        simp only [RV] at hs
        obtain ⟨rfl, hs⟩ := hs
        simp only [Rep] at hs
        obtain ⟨_, ad, cap0, _, rfl, _, hnn, hnil, _⟩ := hs
        have had : ad = none := by cases ad with | none => rfl | some _ => simp at hnn
        subst had
        obtain rfl := hnil rfl
        simp only [Option.some.injEq, Prod.mk.injEq, Bool.and_eq_true, decide_eq_true_eq] at hrun
        obtain ⟨⟨_, ⟨rfl, hx0⟩, hmax⟩, hrun⟩ := hrun
        obtain ⟨rfl, rfl⟩ := hrun
        unfold maxLen at hmax
        rw [hx0] at hiv
        subst hiv
        refine (Any2.slices_Insert_string_end_grow L none 0 0 l2.blk (l2.base + off2 * P.cellsOf e1) len2 c2 [] vs w hpos (Nat.le_refl _) (by omega) (by omega) rfl l2b (fun _ => rfl) (fun _ _ j v hj => by simp at hj) (hvcell w rfl) hvsc).mono ?_
        rintro e w' ⟨rfl, rfl⟩
        have hcap := cap_ge (0 + len2) 0 (ρ.t 9) (w.tape w.drawn (.appendCap (0 + len2) 0 (ρ.t 9)))
        have hcapm := cap_le (0 + len2) 0 (ρ.t 9) (w.tape w.drawn (.appendCap (0 + len2) 0 (ρ.t 9))) (by unfold maxLen; omega)
        have hvl : ((ds2.drop off2).take len2).length = len2 := by simp; omega
        obtain ⟨g1, g2, g3⟩ := newRow_adopt h (w' := w.drew.alloc (.cells (([] ++ vs).toArray ++ Builtin.zeroCells (Value.string ⟨#[]⟩).cells (grownCap w (0 + len2) 0 (ρ.t 9) - (0 + len2))) (ρ.t 9))) (below_da _ _) (blk := w.heap.size) (e := e1) (cap := grownCap w (0 + len2) 0 (ρ.t 9)) (et := ρ.t 9) (fz := (0, 0))
          (cs := ([] ++ vs).toArray ++ Builtin.zeroCells (Value.string ⟨#[]⟩).cells (grownCap w (0 + len2) 0 (ρ.t 9) - (0 + len2))) (ds := (ds2.drop off2).take len2) (mid := vs) (post := (Builtin.zeroCells (Value.string ⟨#[]⟩).cells (grownCap w (0 + len2) 0 (ρ.t 9) - (0 + len2))).toList)
          (Nat.le_refl _) (heap_da _ _) hne (by simp) (fun M' hM => by rw [hvl]; exact Reps.mono _ hM _ _ _ hvs) (by rw [hvl]; rw [Nat.zero_add] at hcap hcapm ⊢; exact ⟨hcap, hcapm⟩) (by rw [hvl, hone]; simp [Builtin.zeroCells, Value.cells]) (by simp)
        rw [hvl] at g1 g2 g3
        rw [Nat.zero_add] at g1 g2 g3 ⊢
        exact ⟨_, _, rfl, g1, g3, g2⟩
      · simp at hrun
    · simp at hrun
  · simp at hrun
end
end Go.AM
namespace Go.AM
open Go Go.RowKit
def add64P : List D → Option D
  | [x, y, c] => bif Nat.ble c.i.toNat 1 then some (.tup [.int .u64 (((x.i.toNat + y.i.toNat + c.i.toNat) % 18446744073709551616 : Nat) : Int), .int .u64 (((x.i.toNat + y.i.toNat + c.i.toNat) / 18446744073709551616 : Nat) : Int)]) else none
  | _ => none
def add64E : Array Value → Sem Value := fun args => do
  let (x, y, c) ← Extern.MathBitsCarry.three "Add64" args
  pure (Extern.MathBitsCarry.pair ((x + y + c) % Extern.MathBitsCarry.m64) ((x + y + c) / Extern.MathBitsCarry.m64))
theorem run_asInt {P : Program} {k : IntKind} {n : Int} (w : World) : (asInt (.int k n)).run P w = .ok n w := by rfl
theorem add64_ok {P : Program} {ty : Nat → K} {f : Nat} {fn0 : Func} (hf : P.funcs[f]? = some fn0) (hg : (fn0.name == "runtime.NumGoroutine") = false) (hb : fn0.body.isNone = true) (h1 : Extern.findNext fn0 = none) (h2 : Extern.find fn0 = some add64E)
    (hp : fn0.params.toList.map ty = [.int .u64, .int .u64, .int .u64]) {t1 t2 : Nat} (hr : fn0.resultTypes.toList = [t1, t2]) (ht1 : ty t1 = .int .u64) (ht2 : ty t2 = .int .u64) : PrimOk P ty f add64P := by
  intro fn M ds xs r w hfn hE hrun
  rw [hf] at hfn
  simp only [Option.some.injEq] at hfn
  subst hfn
  rw [hp] at hE
  unfold add64P at hrun
  split at hrun
  · rename_i x y c
    simp only [Each] at hE
    obtain ⟨_, _, vx, _, e1, rfl, hx, _, _, vy, _, e2, rfl, hy, _, _, vc, _, e3, rfl, hc, _, e4⟩ := hE
    simp only [List.cons.injEq] at e1
    obtain ⟨rfl, rfl⟩ := e1
    simp only [List.cons.injEq] at e2
    obtain ⟨rfl, rfl⟩ := e2
    simp only [List.cons.injEq] at e3
    obtain ⟨rfl, rfl⟩ := e3
    have hvx := rep_int hx
    have hvy := rep_int hy
    have hvc := rep_int hc
    subst hvx hvy hvc
    rw [Bool.cond_eq_ite] at hrun
    split at hrun
    · rename_i hle
      simp only [Option.some.injEq] at hrun
      subst hrun
      have hc1 : ¬ c.i.toNat > 1 := by have := Nat.le_of_ble_eq_true hle; omega
      refine ⟨Extern.MathBitsCarry.pair ((x.i.toNat + y.i.toNat + c.i.toNat) % Extern.MathBitsCarry.m64) ((x.i.toNat + y.i.toNat + c.i.toNat) / Extern.MathBitsCarry.m64), ?_, fun M' => ?_⟩
      · simp only [callFunc, run_bind, program, Sem.run, hf, hg, hb, Bool.false_eq_true, if_false, if_true, h1, h2, run_mark]
        have hrun : Sem.run P (add64E #[.int .u64 x.i, .int .u64 y.i, .int .u64 c.i]) w = .ok (Extern.MathBitsCarry.pair ((x.i.toNat + y.i.toNat + c.i.toNat) % Extern.MathBitsCarry.m64) ((x.i.toNat + y.i.toNat + c.i.toNat) / Extern.MathBitsCarry.m64)) w := by
          have h3 : Sem.run P (Extern.MathBitsCarry.three "Add64" #[.int .u64 x.i, .int .u64 y.i, .int .u64 c.i]) w = .ok (x.i.toNat, y.i.toNat, c.i.toNat) w := by
            show Sem.run P (Bind.bind (asInt (.int .u64 c.i)) _) w = _
            rw [run_bind, run_asInt]
            simp only [if_neg hc1, run_bind, run_pure, run_asInt]
            rfl
          simp only [add64E, run_bind, h3, run_pure]
        subst e4
        rw [show (Value.int IntKind.u64 x.i :: Value.int IntKind.u64 y.i :: Value.int IntKind.u64 c.i :: ([] : List Value)).toArray = #[.int .u64 x.i, .int .u64 y.i, .int .u64 c.i] from rfl, hrun]
        rfl
      · rw [hr]
        simp only [ResRep]
        refine ⟨_, _, rfl, rfl, ?_⟩
        simp only [List.map_cons, List.map_nil, ht1, ht2, Each]
        exact ⟨_, _, _, _, rfl, rfl, ⟨rfl, rfl⟩, _, _, _, _, rfl, rfl, ⟨rfl, rfl⟩, rfl, rfl⟩
    · simp at hrun
  · simp at hrun
end Go.AM
namespace Go.AM
open Go Go.RowKit
def cutCells (sz : Nat → Nat) (κ : K) (cs : List Value) : Option (Value × List Value) :=
  if κ.isAgg then (if ksz sz κ ≤ cs.length then some (.agg (cs.take (ksz sz κ)).toArray, cs.drop (ksz sz κ)) else none)
  else match cs with | v :: cs => (match v with | .agg _ => none | _ => some (v, cs)) | [] => none
mutual
def zrep (ty : Nat → K) (sz : Nat → Nat) : D → K → Value → Bool
  | .bool b, .bool, .bool b' => b == b'
  | .int k n, .int k', .int k'' n' => decide (k = k') && decide (k = k'') && n == n'
  | .str s, .str, .string s' => s.data.toList == s'.data.toList
  | .agg ds, κ, .agg cs => κ.isAgg && zreps ty sz ds (κ.kids ty) cs.toList
  | .slice false [], .slice _, .slice none 0 0 => true
  | .nilIface, .iface _, .nilIface => true
  | .nilFunc, .func, .nilFunc => true
  | .nilPtr, .ptr _, .pointer none => true
  | .nilMap, .map _ _, .map none => true
  | _, _, _ => false
def zreps (ty : Nat → K) (sz : Nat → Nat) : List D → List K → List Value → Bool
  | [], [], [] => true
  | d :: ds, κ :: κs, cs => match cutCells sz κ cs with
    | some (x, rest) => zrep ty sz d κ x && zreps ty sz ds κs rest
    | none => false
  | _, _, _ => false
end
section
variable {ty : Nat → K} {sz : Nat → Nat}
mutual
theorem zrep_ok {M : Mem} : ∀ (d : D) (κ : K) (v : Value), zrep ty sz d κ v = true → Rep ty M d κ v
  | .bool b, κ, v, h => by
    cases κ <;> cases v <;> simp [zrep] at h
    subst h; simp [Rep]
  | .int k n, κ, v, h => by
    cases κ <;> cases v <;> simp [zrep] at h
    obtain ⟨⟨rfl, rfl⟩, rfl⟩ := h; simp [Rep]
  | .str s, κ, v, h => by
    cases κ <;> cases v <;> simp [zrep] at h
    rename_i s'
    have : s = s' := by cases s; cases s'; congr
    subst this; simp [Rep]
  | .agg ds, κ, v, h => by
    cases v <;> simp [zrep] at h
    rename_i cs
    simp only [Rep]
    exact ⟨h.1, cs, rfl, zreps_ok ds _ _ h.2⟩
  | .slice nn ds, κ, v, h => by
    unfold zrep at h
    split at h <;> simp at *
    rename_i h1
    obtain ⟨rfl, rfl⟩ := h1
    simp only [Rep]
    exact ⟨_, none, 0, rfl, rfl, Nat.le_refl _, rfl, fun _ => rfl, .inl trivial⟩
  | .iface t x, κ, v, h => by cases κ <;> cases v <;> simp [zrep] at h
  | .nilIface, κ, v, h => by cases κ <;> cases v <;> simp [zrep] at h; simp [Rep]
  | .fn f, κ, v, h => by cases κ <;> cases v <;> simp [zrep] at h
  | .nilFunc, κ, v, h => by cases κ <;> cases v <;> simp [zrep] at h; simp [Rep]
  | .nilPtr, κ, v, h => by
    unfold zrep at h
    split at h <;> simp at *
    simp [Rep]
  | .nilMap, κ, v, h => by
    unfold zrep at h
    split at h <;> simp at *
    simp [Rep]
  | .tup ds, κ, v, h => by cases κ <;> cases v <;> simp [zrep] at h
theorem zreps_ok {M : Mem} : ∀ (ds : List D) (κs : List K) (cs : List Value), zreps ty sz ds κs cs = true → Reps ty M ds κs cs
  | [], κs, cs, h => by
    cases κs <;> cases cs <;> simp [zreps] at h
    simp [Reps]
  | d :: ds, κs, cs, h => by
    cases κs with
    | nil => simp [zreps] at h
    | cons κ κs =>
      simp only [zreps] at h
      split at h
      · rename_i x rest hc
        simp only [Bool.and_eq_true] at h
        simp only [Reps]
        refine ⟨κ, κs, x, rest, rfl, ?_, zrep_ok d κ x h.1, zreps_ok ds κs rest h.2⟩
        unfold cutCells at hc
        split at hc
        · split at hc
          · simp only [Option.some.injEq, Prod.mk.injEq] at hc
            obtain ⟨rfl, rfl⟩ := hc
            simp [cells_agg]
          · simp at hc
        · split at hc
          · rename_i v cs'
            split at hc
            · simp at hc
            · rename_i hna
              simp only [Option.some.injEq, Prod.mk.injEq] at hc
              obtain ⟨rfl, rfl⟩ := hc
              cases v <;> first | (exact absurd rfl (hna _)) | simp [Value.cells]
          · simp at hc
      · simp at h
end
end
def fieldsB (P : Program) (ty : Nat → K) (sz : Nat → Nat) (κ : K) : List Field → List Nat → Nat → Bool
  | [], [], _ => true
  | f :: fields, t :: fs, j => f.type == t && f.offset == kOff sz κ j && decide (0 < sz f.type) && f.name != "_" && (ty f.type).ok && fieldsB P ty sz κ fields fs (j + 1)
  | _, _, _ => false
def descB (P : Program) (ty : Nat → K) (t : Nat) (κ : K) : Bool :=
  match κ, P.underlying t with
  | .bool, some .bool => true
  | .int k, some (.int k') => decide (k = k')
  | .str, some .string => true
  | .struct fs, some (.struct fields) => fieldsB P ty P.cellsOf (.struct fs) fields.toList fs 0
  | .array n e, some (.array n' e') => n == n' && e == e' && decide (0 < P.cellsOf e) && (ty e).ok
  | .slice e, some (.slice e') => e == e' && (ty e).ok
  | .map a e, some (.map a' e') => a == a' && e == e' && (ty a).ok && (ty e).ok
  | .iface m, some (.interface ms) => ms.isEmpty == !m
  | .ptr e, some (.pointer e') => e == e'
  | .func, some (.func _ _ _) => true
  | _, _ => false
def tyB (P : Program) (ty : Nat → K) (t : Nat) : Bool :=
  match ty t with
  | .bad => true
  | κ => match P.info? t with
    | none => false
    | some i => i.size == ksz P.cellsOf κ && decide (i.bytes ≤ 4096) && decide (i.size ≤ 4096) && (match i.zero with | some z => zrep ty P.cellsOf (zero ty κ) κ z | none => false) &&
      (!K.cmp ty 20 κ || (i.comparable && !P.eqGuardType P.depth t && !P.stoodInHeld t)) && descB P ty t κ
theorem ok_ne {κ : K} (h : κ.ok = true) : κ ≠ .bad := by rintro rfl; simp [K.ok] at h
theorem fieldsB_ok {P : Program} {ty : Nat → K} {sz : Nat → Nat} {κ : K} : ∀ (fields : List Field) (fs : List Nat) (j : Nat), fieldsB P ty sz κ fields fs j = true →
    fields.map (·.type) = fs ∧ ∀ (i : Nat) (f : Field), fields[i]? = some f → f.offset = kOff sz κ (j + i) ∧ 0 < sz f.type ∧ f.name ≠ "_" ∧ ty f.type ≠ .bad
  | [], [], j, _ => ⟨rfl, by simp⟩
  | [], _ :: _, j, h => by simp [fieldsB] at h
  | _ :: _, [], j, h => by simp [fieldsB] at h
  | f :: fields, t :: fs, j, h => by
    simp only [fieldsB, Bool.and_eq_true, beq_iff_eq, decide_eq_true_eq, bne_iff_ne] at h
    obtain ⟨⟨⟨⟨⟨h1, h2⟩, h3⟩, h4⟩, h5⟩, h6⟩ := h
    obtain ⟨k1, k2⟩ := fieldsB_ok fields fs (j + 1) h6
    refine ⟨by simp [h1, k1], fun i f' hi => ?_⟩
    cases i with
    | zero => simp at hi; subst hi; exact ⟨h2, h3, h4, ok_ne h5⟩
    | succ i =>
      obtain ⟨a, b⟩ := k2 i f' (by simpa using hi)
      exact ⟨by rw [a]; congr 1; omega, b⟩
theorem tyB_ok {P : Program} {ty : Nat → K} {t : Nat} (h : tyB P ty t = true) (hb : ty t ≠ .bad) : ∃ i, TyFact P ty t i := by
  unfold tyB at h
  split at h
  · rename_i hk; exact absurd hk hb
  · split at h
    · simp at h
    · rename_i i hi
      simp only [Bool.and_eq_true, beq_iff_eq, decide_eq_true_eq, Bool.or_eq_true, Bool.not_eq_true'] at h
      obtain ⟨⟨⟨⟨⟨h1, h2⟩, h3⟩, h4⟩, h5⟩, h6⟩ := h
      refine ⟨i, hi, h1, h2, h3, ?_, ?_, ?_⟩
      · cases hz : i.zero with
        | none => rw [hz] at h4; simp at h4
        | some z => rw [hz] at h4; exact ⟨z, rfl, fun M => zrep_ok _ _ _ h4⟩
      · intro hc
        rcases h5 with h5 | h5
        · rw [hc] at h5; simp at h5
        · exact ⟨h5.1.1, h5.1.2, h5.2⟩
      · unfold descB at h6
        split at h6
        case h_11 => simp at h6
        all_goals (rename_i hk hu; rw [hk]; simp only [descOk])
        · exact hu
        · simp only [decide_eq_true_eq] at h6; subst h6; exact hu
        · exact hu
        · obtain ⟨k1, k2⟩ := fieldsB_ok _ _ _ h6
          exact ⟨_, hu, k1, fun j f hj => by have := k2 j f (by simpa using hj); simpa using this⟩
        · simp only [Bool.and_eq_true, beq_iff_eq, decide_eq_true_eq] at h6
          obtain ⟨⟨⟨rfl, rfl⟩, h7⟩, h8⟩ := h6
          exact ⟨hu, h7, ok_ne h8⟩
        · simp only [Bool.and_eq_true, beq_iff_eq] at h6
          obtain ⟨rfl, h8⟩ := h6
          exact ⟨hu, ok_ne h8⟩
        · simp only [Bool.and_eq_true, beq_iff_eq] at h6
          obtain ⟨⟨⟨rfl, rfl⟩, h7⟩, h8⟩ := h6
          exact ⟨hu, ok_ne h7, ok_ne h8⟩
        · exact ⟨_, hu, by simpa using h6⟩
        · simp only [beq_iff_eq] at h6; subst h6; exact hu
        · exact ⟨_, _, _, hu⟩
theorem tyOk_of {P : Program} {tys : List K} (h : (List.range tys.length).all (tyB P fun t => tys.getD t .bad) = true) : TyOk P fun t => tys.getD t .bad := by
  intro t ht
  refine tyB_ok ?_ ht
  have hlt : t < tys.length := by
    rcases Nat.lt_or_ge t tys.length with h | h
    · exact h
    · simp [List.getD_eq_getElem?_getD, List.getElem?_eq_none h] at ht
  exact List.all_eq_true.1 h t (List.mem_range.2 hlt)
end Go.AM
namespace Go.Proofs
open Go.Shelf
def Tryz.lays197_ren : Go.Shelf.Ren := ⟨fun | 197 => 155 | 260 => 158 | n => n, fun | 9 => 9 | 21 => 21 | 3 => 3 | 4 => 4 | 5 => 5 | 105 => 205 | 119 => 208 | 0 => 0 | 46 => 176 | 139 => 211 | 138 => 210 | n => n, fun | 3 => 0 | 4 => 1 | n => n⟩
theorem Tryz.lays197 : Go.Proofs.Lays.n197 Tryz.prog Tryz.lays197_ren := {
  mixed := by kernel_rfl
  f197 := Tryz.func155.trans (congrArg some (by kernel_rfl))
  f260 := Tryz.func158.trans (congrArg some (by kernel_rfl))
  t0 := Tryz.underlying0
  a0 := Tryz.isAgg0
  z0 := Tryz.sizeOf0
  v0 := Tryz.zeroValue0
  t3 := Tryz.underlying3
  a3 := Tryz.isAgg3
  z3 := Tryz.sizeOf3
  v3 := Tryz.zeroValue3
  t4 := Tryz.underlying4
  a4 := Tryz.isAgg4
  z4 := Tryz.sizeOf4
  v4 := Tryz.zeroValue4
  t5 := Tryz.underlying5
  a5 := Tryz.isAgg5
  z5 := Tryz.sizeOf5
  v5 := Tryz.zeroValue5
  t9 := Tryz.underlying9
  a9 := Tryz.isAgg9
  z9 := Tryz.sizeOf9
  v9 := Tryz.zeroValue9
  t21 := Tryz.underlying21
  a21 := Tryz.isAgg21
  z21 := Tryz.sizeOf21
  v21 := Tryz.zeroValue21
  t46 := Tryz.underlying176
  a46 := Tryz.isAgg176
  z46 := Tryz.sizeOf176
  v46 := Tryz.zeroValue176
  t105 := Tryz.underlying205
  a105 := Tryz.isAgg205
  z105 := Tryz.sizeOf205
  v105 := Tryz.zeroValue205
  t119 := Tryz.underlying208
  a119 := Tryz.isAgg208
  z119 := Tryz.sizeOf208
  t138 := Tryz.underlying210
  a138 := Tryz.isAgg210
  z138 := Tryz.sizeOf210
  v138 := Tryz.zeroValue210
  t139 := Tryz.underlying211
  a139 := Tryz.isAgg211
  z139 := Tryz.sizeOf211
  v139 := Tryz.zeroValue211
  g3 := by kernel_rfl
  g4 := by kernel_rfl }
def Tryz.lays22_ren : Go.Shelf.Ren := ⟨fun | 22 => 126 | 29 => 143 | 30 => 144 | 36 => 152 | 17 => 157 | n => n, fun | 24 => 37 | 9 => 9 | 3 => 3 | 4 => 4 | 0 => 0 | n => n, fun | n => n⟩
theorem Tryz.lays22 : Go.Proofs.Lays2.n22 Tryz.prog Tryz.lays22_ren := {
  mixed := by kernel_rfl
  f17 := Tryz.func157.trans (congrArg some (by kernel_rfl))
  f22 := Tryz.func126.trans (congrArg some (by kernel_rfl))
  f29 := Tryz.func143.trans (congrArg some (by kernel_rfl))
  f30 := Tryz.func144.trans (congrArg some (by kernel_rfl))
  f36 := Tryz.func152.trans (congrArg some (by kernel_rfl))
  t0 := Tryz.underlying0
  a0 := Tryz.isAgg0
  z0 := Tryz.sizeOf0
  v0 := Tryz.zeroValue0
  t3 := Tryz.underlying3
  a3 := Tryz.isAgg3
  z3 := Tryz.sizeOf3
  v3 := Tryz.zeroValue3
  t4 := Tryz.underlying4
  a4 := Tryz.isAgg4
  z4 := Tryz.sizeOf4
  v4 := Tryz.zeroValue4
  t9 := Tryz.underlying9
  a9 := Tryz.isAgg9
  z9 := Tryz.sizeOf9
  v9 := Tryz.zeroValue9
  t24 := Tryz.underlying37
  a24 := Tryz.isAgg37
  z24 := Tryz.sizeOf37
  v24 := Tryz.zeroValue37
  i9 := by kernel_rfl }
theorem Tryz.lays197ok : Lays.n197 Tryz.prog Tryz.lays197_ren := Tryz.lays197
end Go.Proofs
namespace Go.AM.SZ
open Go Go.AM Go.Proofs Go.RowKit
def tys : List K := [
.bad, .func, .int .i64, .int .i64, .bool, .int .u8, .int .u8, .struct [2, 3, 4, 6],
.struct [2, 3, 4, 6], .str, .str, .str, .int .u64, .bad, .bad, .ptr 214,
.ptr 217, .ptr 226, .struct [17], .struct [17], .iface false, .int .i32, .slice 52, .func,
.func, .slice 39, .struct [25, 3, 3], .struct [25, 3, 3], .slice 41, .slice 58, .bad, .func,
.struct [25, 3, 3], .bad, .func, .func, .int .i64, .slice 9, .struct [3, 9, 9, 4, 3, 37], .struct [3, 9, 9, 4, 3, 37],
.struct [36, 3, 9, 39, 37], .struct [36, 3, 9, 39, 37], .func, .func, .func, .slice 81, .struct [45, 3, 3], .struct [45, 3, 3],
.bad, .func, .int .i64, .struct [50, 9, 9, 3, 3, 3], .struct [50, 9, 9, 3, 3, 3], .bad, .func, .array 32 5,
.array 32 5, .struct [50, 3, 9, 3, 3, 56], .struct [50, 3, 9, 3, 3, 56], .func, .func, .func, .bad, .func,
.slice 109, .struct [64, 3, 3], .struct [64, 3, 3], .bad, .func, .func, .func, .func,
.func, .func, .func, .func, .bad, .func, .func, .func,
.struct [39, 3, 56], .struct [39, 3, 56], .func, .ptr 85, .struct [27, 52, 29], .struct [27, 52, 29], .func, .array 12 86,
.func, .func, .func, .func, .func, .struct [92], .struct [92], .bad,
.ptr 47, .func, .func, .struct [98], .struct [98], .ptr 81, .func, .func,
.func, .func, .func, .bad, .func, .struct [39, 3, 56], .func, .func,
.func, .func, .func, .func, .bad, .func, .func, .func,
.func, .bad, .func, .bad, .func, .func, .func, .func,
.slice 132, .func, .func, .iface true, .iface true, .str, .bad, .func,
.func, .func, .func, .int .u32, .array 8 139, .array 64 139, .bad, .func,
.func, .func, .func, .func, .func, .func, .func, .func,
.slice 3, .func, .func, .func, .func, .func, .func, .func,
.int .i64, .array 32 5, .func, .func, .func, .func, .func, .func,
.str, .func, .func, .func, .func, .func, .int .u64, .slice 5,
.int .u64, .func, .slice 139, .array 5 4, .func, .slice 21, .func, .bad,
.func, .bad, .map 50 20, .func, .func, .func, .bad, .func,
.func, .func, .func, .func, .func, .func, .func, .func,
.func, .func, .bad, .func, .func, .bad, .func, .func,
.array 256 5, .struct [5, 5], .struct [5, 5], .array 16 210, .func, .struct [17, 17, 17, 9], .struct [17, 17, 17, 9], .array 0 16,
.bad, .bad, .func, .int .u8, .int .u8, .func, .ptr 5, .int .i32,
.int .i32, .struct [12, 12, 139, 219, 5, 5, 220, 221, 222, 223, 224], .struct [12, 12, 139, 219, 5, 5, 220, 221, 222, 223, 224], .bad]
def ty (t : Nat) : K := tys.getD t .bad
theorem tyOk : TyOk Tryz.prog ty := tyOk_of (by kernel_rfl)
theorem mixed : Tryz.prog.follows .mixedOrders = true := by kernel_rfl
def plainNames (l : List Func) : Bool := l.all fun f => !(f.name == "runtime.NumGoroutine")
theorem names : plainNames Tryz.prog.funcs.toList = true := by kernel_rfl
def plainRounds (l : List Func) : Bool := l.all roundsOk
theorem rounds_ok : plainRounds Tryz.prog.funcs.toList = true := by kernel_rfl
def look {A : Type} (l : List (Nat × A)) (f : Nat) : Option A := match l.find? fun e => e.1 == f with | some e => some e.2 | none => none
def look2 (l : List (Nat × Nat × Hint)) (f i : Nat) : Hint := match l.find? fun e => e.1 == f && e.2.1 == i with | some e => e.2.2 | none => {}
def prims : List (Nat × (List D → Option D)) := [(154, add64P)]
noncomputable def env (cons : List (Nat × Con)) (exts : List (Nat × Ext)) (hints : List (Nat × Nat × Hint)) (M : Nat) : Env :=
  { ty := ty, fn := fun f => Tryz.prog.funcs[f]?, con := look cons, hint := look2 hints, fuel := M + 1, ext := look exts, prim := look prims }
def I (w : World) : Prop := Lib.Utf8Tabs 0 1 w
def gl : Nat := 2
theorem hgl (w : World) (h : I w) : gl ≤ w.heap.size := by
  have := (h.2 0 (by omega)).1
  unfold gl
  rcases Nat.lt_or_ge 1 w.heap.size with h1 | h1
  · omega
  · simp [World.cell?, Array.getElem?_eq_none h1] at this
theorem hk (w w' : World) (hb : Below gl w w') (h : I w) : I w' := by
  have e : ∀ b o, b < 2 → w'.cell? ⟨b, o, none⟩ = w.cell? ⟨b, o, none⟩ := fun b o hb2 => cell_congr (hb.block b hb2)
  exact ⟨fun c hc => by rw [e 0 _ (by omega)]; exact h.1 c hc, fun i hi => by rw [e 1 _ (by omega), e 1 _ (by omega)]; exact h.2 i hi⟩
def ConOk (e : Nat × Con) : Prop := ∀ fn, Tryz.prog.funcs[e.1]? = some fn → Contract Tryz.prog ty I e.1 fn e.2
def XOk (e : Nat × Ext) : Prop := ExtOk Tryz.prog ty I gl e.1 e.2
theorem allNil {B : Type} {Q : B → Prop} : ∀ x ∈ ([] : List B), Q x := fun _ h => absurd h List.not_mem_nil
theorem allCons {B : Type} {Q : B → Prop} {e : B} {l : List B} (h : Q e) (hl : ∀ x ∈ l, Q x) : ∀ x ∈ e :: l, Q x := by
  intro x hx
  rcases List.mem_cons.1 hx with rfl | hx
  · exact h
  · exact hl x hx
theorem prims_ok : ∀ e ∈ prims, PrimOk Tryz.prog ty e.1 e.2 := allCons (add64_ok (fn0 := Tryz.f154) (by kernel_rfl) (by kernel_rfl) (by kernel_rfl) (by kernel_rfl) (by kernel_rfl) (by kernel_rfl) (t1 := Tryz.f154.resultTypes[0]!) (t2 := Tryz.f154.resultTypes[1]!) (by kernel_rfl) (by kernel_rfl) (by kernel_rfl)) allNil
def voidC : Con := { run := fun _ => none }
theorem void_ok (n : Nat) : ConOk (n, voidC) := fun fn _ X w ds xs r _ _ _ h => by simp [voidC] at h
theorem envOk {cons : List (Nat × Con)} {exts : List (Nat × Ext)} {hints : List (Nat × Nat × Hint)} {M : Nat} (hc : ∀ e ∈ cons, ConOk e) (hx : ∀ e ∈ exts, XOk e) : EnvOk Tryz.prog (env cons exts hints M) I gl := by
  refine ⟨tyOk, fun f fn hf => ⟨hf, ?_⟩, fun f c fn hl hf => ?_, hk, mixed, fun f x hl => ?_, fun f fn hf => List.all_eq_true.1 rounds_ok fn (by have hf' : Tryz.prog.funcs[f]? = some fn := hf; rw [← Array.getElem?_toList] at hf'; exact List.mem_of_getElem? hf'), fun f x hl => ?_⟩
  · have h := List.all_eq_true.1 names fn (by have hf' : Tryz.prog.funcs[f]? = some fn := hf; rw [← Array.getElem?_toList] at hf'; exact List.mem_of_getElem? hf')
    simpa using h
  · unfold env look at hl
    simp only at hl
    split at hl
    · rename_i e he
      simp only [Option.some.injEq] at hl
      subst hl
      have h1 : e.1 = f := by simpa using List.find?_some he
      subst h1
      exact hc e (List.mem_of_find?_eq_some he) fn hf
    · simp at hl
  · unfold env look at hl
    simp only at hl
    split at hl
    · rename_i e he
      simp only [Option.some.injEq] at hl
      subst hl
      have h1 : e.1 = f := by simpa using List.find?_some he
      subst h1
      exact hx e (List.mem_of_find?_eq_some he)
    · simp at hl
  · unfold env look at hl
    simp only at hl
    split at hl
    · rename_i e he
      simp only [Option.some.injEq] at hl
      subst hl
      have h1 : e.1 = f := by simpa using List.find?_some he
      subst h1
      exact prims_ok e (List.mem_of_find?_eq_some he)
    · simp at hl
theorem mkC {f dp : Nat} (fn : Func) (κs : List K) (ts : List Nat) {run : List D → Option D} {p : Bool} {cons : List (Nat × Con)} {exts : List (Nat × Ext)} {hints : List (Nat × Nat × Hint)} {M : Nat} {T : Tbl}
    (hf : Tryz.prog.funcs[f]? = some fn) (hs : fn.params.toList.map ty = κs) (hr : fn.resultTypes.toList = ts) (hp : (!p || ts.all fun t => K.flat ty 20 (ty t)) = true) (hc : ∀ e ∈ cons, ConOk e) (hx : ∀ e ∈ exts, XOk e) (hT : AllOk (env cons exts hints M) T)
    (h : ∀ a : Args κs, callS (env cons exts hints M) T dp (.fn f) (List.zipWith V.d κs (Args.ds κs a)) [] (fun v H => finish ty ts v H) = run (Args.ds κs a)) : ConOk (f, { run := run, plain := p }) := by
  intro fn' hfn
  obtain rfl : fn = fn' := Option.some.inj (hf.symm.trans hfn)
  exact okC hgl hs hr hp (envOk hc hx) rfl hT h
theorem mkF {f dp : Nat} (fn : Func) (κs : List K) (ts : List Nat) {run : List D → Option D} {cons : List (Nat × Con)} {exts : List (Nat × Ext)} {hints : List (Nat × Nat × Hint)} {M : Nat} {T : Tbl}
    (hf : Tryz.prog.funcs[f]? = some fn) (hs : fn.params.toList.map ty = κs) (hr : fn.resultTypes.toList = ts) (hc : ∀ e ∈ cons, ConOk e) (hx : ∀ e ∈ exts, XOk e) (hT : AllOk (env cons exts hints M) T)
    (h : ∀ a : Args κs, callS (env cons exts hints M) T dp (.fn f) (List.zipWith V.d κs (Args.ds κs a)) [] (fun v H => finishFresh ty ts v H) = run (Args.ds κs a)) : ConOk (f, { run := run, fresh := true }) := by
  intro fn' hfn
  obtain rfl : fn = fn' := Option.some.inj (hf.symm.trans hfn)
  exact okF hgl hs hr (envOk hc hx) rfl hT h
theorem fun155 : Tryz.prog.funcs[155]? = some Tryz.f155 := by kernel_rfl
theorem decode_ok : ConOk (155, decodeC) := by
  intro fn hfn
  obtain rfl : Tryz.f155 = fn := Option.some.inj (fun155.symm.trans hfn)
  exact decodeC_ok (ρ := Tryz.lays197_ren) Tryz.lays197 (fun _ h => h) (t5 := Tryz.f155.resultTypes[0]!) (t3 := Tryz.f155.resultTypes[1]!) (by kernel_rfl) (by kernel_rfl) (by kernel_rfl) (by kernel_rfl)
theorem insert_ok : XOk (126, insertX 9) := insertX_ok (ρ := Tryz.lays22_ren) tyOk Tryz.lays22 (by kernel_rfl)
end Go.AM.SZ
namespace Go.AM.SZ
open Go Go.AM Go.Proofs Go.RowKit
def FUEL : Nat := 1048576
namespace F68
def s (M : Nat) (p0 : D) : Option D :=
  (cond (eqI (p0.at 0).i 0) (cond (eqI (p0.at 0).i 0) (some (dl true [(D.iface 160 (p0.at 1)), (D.iface 133 (p0.at 2))])) (cond (eqI (p0.at 0).i 1) (some (dl true [(D.iface 160 (p0.at 1)), (D.iface 160 (p0.at 4))])) (cond (eqI (p0.at 0).i 2) (some (dl true [(D.iface 160 (p0.at 1)), (D.iface 160 (p0.at 3)), (D.iface 160 (p0.at 4)), (D.iface 161 (p0.at 5))])) (cond (eqI (p0.at 0).i 3) (some (dl true [(D.iface 160 (p0.at 1)), (D.iface 160 (p0.at 3))])) (cond (eqI (p0.at 0).i 6) (some (dl true [(D.iface 160 (p0.at 1))])) (cond (eqI (p0.at 0).i 7) (some (dl true [(D.iface 160 (p0.at 3))])) (some (dl false [])))))))) (cond (eqI (p0.at 0).i 4) (cond (eqI (p0.at 0).i 4) (some (dl true [(D.iface 160 (p0.at 1)), (D.iface 133 (p0.at 2))])) (cond (eqI (p0.at 0).i 1) (some (dl true [(D.iface 160 (p0.at 1)), (D.iface 160 (p0.at 4))])) (cond (eqI (p0.at 0).i 2) (some (dl true [(D.iface 160 (p0.at 1)), (D.iface 160 (p0.at 3)), (D.iface 160 (p0.at 4)), (D.iface 161 (p0.at 5))])) (cond (eqI (p0.at 0).i 3) (some (dl true [(D.iface 160 (p0.at 1)), (D.iface 160 (p0.at 3))])) (cond (eqI (p0.at 0).i 6) (some (dl true [(D.iface 160 (p0.at 1))])) (cond (eqI (p0.at 0).i 7) (some (dl true [(D.iface 160 (p0.at 3))])) (some (dl false [])))))))) (cond (eqI (p0.at 0).i 5) (some (dl true [(D.iface 160 (p0.at 1)), (D.iface 133 (p0.at 2))])) (cond (eqI (p0.at 0).i 1) (some (dl true [(D.iface 160 (p0.at 1)), (D.iface 160 (p0.at 4))])) (cond (eqI (p0.at 0).i 2) (some (dl true [(D.iface 160 (p0.at 1)), (D.iface 160 (p0.at 3)), (D.iface 160 (p0.at 4)), (D.iface 161 (p0.at 5))])) (cond (eqI (p0.at 0).i 3) (some (dl true [(D.iface 160 (p0.at 1)), (D.iface 160 (p0.at 3))])) (cond (eqI (p0.at 0).i 6) (some (dl true [(D.iface 160 (p0.at 1))])) (cond (eqI (p0.at 0).i 7) (some (dl true [(D.iface 160 (p0.at 3))])) (some (dl false []))))))))))
def c : Con := { run := fun ds => match ds with | [p0] => s FUEL p0 | _ => none }
end F68
namespace F69
def k0_ : K := (.struct [50, 3, 9, 3, 3, 56])
structure S4 where
  (i21 : Int) (n22 n23 : Nat) (d24 : D) (i25 i26 i27 i28 : Int) (s29 : ByteArray) (i30 i31 : Int) (d32 : D) (i33 i34 : Int) (d35 : D) (i36 i37 : Int) (d38 : D) (b39 : Bool) (l40 : List D)
inductive X4 where
  | e0 (i21 : Int) (n22 n23 : Nat) (d24 : D) (i25 i26 i27 i28 : Int) (s29 : ByteArray) (i30 i31 : Int) (d32 : D) (i33 i34 : Int) (d35 : D) (i36 i37 : Int) (d38 : D) (b39 : Bool) (l40 : List D)
def st4 (M : Nat) : S4 → (S4 → Option D) → (X4 → Option D) → Option D
  | ⟨i21, n22, n23, d24, i25, i26, i27, i28, s29, i30, i31, d32, i33, i34, d35, i36, i37, d38, b39, l40⟩, rec, K => (cond (ltI i26 i25) (cond (inb i26 d24.elems.length) (cond (isT 160 (ix d24.elems i26.toNat)) (cond (mx (n23 + 1)) (rec ⟨i21, 0, (n23 + 1), d24, i25, (ad .i64 i26 1), i27, i28, s29, i30, i31, d32, i33, i34, d35, i36, i37, d38, (b39 || true), (ap ((l40.drop n22).take n23) [(assertD 160 (di 0) (ix d24.elems i26.toNat))])⟩) none) (cond (isT 133 (ix d24.elems i26.toNat)) (rec ⟨i21, n22, n23, d24, i25, (ad .i64 i26 1), i27, i28, s29, i30, i31, d32, i33, i34, (assertD 133 (dS (bs [])) (ix d24.elems i26.toNat)), i36, i37, d38, b39, l40⟩) (cond (isT 161 (ix d24.elems i26.toNat)) (rec ⟨i21, n22, n23, d24, i25, (ad .i64 i26 1), i27, i28, s29, i30, i31, d32, i33, i34, d35, i36, i37, (assertD 161 (da (rp 32 (D.int .u8 0))) (ix d24.elems i26.toNat)), b39, l40⟩) (rec ⟨i21, n22, n23, d24, i25, (ad .i64 i26 1), i27, i28, s29, i30, i31, d32, i33, i34, d35, i36, i37, d38, b39, l40⟩)))) none) (K (.e0 i21 n22 n23 d24 i25 i26 i27 i28 s29 i30 i31 d32 i33 i34 d35 i36 i37 d38 b39 l40)))
def of4 : List Leaf → Option S4
  | [.i i21, .n n22, .n n23, .d d24, .i i25, .i i26, .i i27, .i i28, .s s29, .i i30, .i i31, .d d32, .i i33, .i i34, .d d35, .i i36, .i i37, .d d38, .b b39, .l l40] => some ⟨i21, n22, n23, d24, i25, i26, i27, i28, s29, i30, i31, d32, i33, i34, d35, i36, i37, d38, b39, l40⟩
  | _ => none
def ex4 (k : Kont) : X4 → Option D
  | .e0 i21 n22 n23 d24 i25 i26 i27 i28 s29 i30 i31 d32 i33 i34 d35 i36 i37 d38 b39 l40 => k (.exit 0) ((vi i21) :: (us 3 ((.ptr 0 [] k0_) :: (.ptr 1 [] k0_) :: (.sref 2 n22 n23) :: (us 7 ((vk (.slice 132) d24) :: (vi i25) :: (vi i26) :: (vb (ltI i26 i25)) :: (us 56 [])))))) [(.var k0_ (vk k0_ (da [(di i27), (di i28), (dS s29), (di i30), (di i31), d32]))), (.var k0_ (vk k0_ (da [(di i33), (di i34), d35, (di i36), (di i37), d38]))), (.row 3 true b39 l40)]
def s (M : Nat) (p0 : Int) (p1 : D) : Option D :=
  (goS (st4 M) M ⟨p0, 0, 0, p1, (nI p1.elems.length), 0, 0, 0, (bs []), 0, 0, (da (rp 32 (D.int .u8 0))), p0, 0, (dS (bs [])), 0, 0, (da (rp 32 (D.int .u8 0))), false, []⟩ fun x => match x with | .e0 i21 n22 n23 d24 i25 i26 i27 i28 s29 i30 i31 d32 i33 i34 d35 i36 i37 d38 b39 l40 => (cond (eqI i21 7) (cond (inb 0 n23) (some (da [(di i33), (di i34), d35, (ix l40 (n22 + 0)), (di i37), d38])) none) (cond (eqI i21 1) (cond (inb 1 n23) (cond (inb 0 n23) (some (da [(di i33), (ix l40 (n22 + 0)), d35, (di i36), (ix l40 (n22 + 1)), d38])) none) none) (cond (eqI i21 2) (cond (inb 1 n23) (cond (inb 2 n23) (cond (inb 0 n23) (some (da [(di i33), (ix l40 (n22 + 0)), d35, (ix l40 (n22 + 1)), (ix l40 (n22 + 2)), d38])) none) none) none) (cond (eqI i21 3) (cond (inb 1 n23) (cond (inb 0 n23) (some (da [(di i33), (ix l40 (n22 + 0)), d35, (ix l40 (n22 + 1)), (di i37), d38])) none) none) (cond (inb 0 n23) (some (da [(di i33), (ix l40 (n22 + 0)), d35, (di i36), (di i37), d38])) none))))))
def c : Con := { run := fun ds => match ds with | [p0, p1] => s FUEL p0.i p1 | _ => none, plain := true }
end F69
namespace F117
def cons : List (Nat × Con) := []
def exts : List (Nat × Ext) := []
def h : List (Nat × Nat × Hint) := []
noncomputable def e (M : Nat) : Env := env cons exts h M
def s (M : Nat) (p0 : Int) : Option D :=
  (cond (ltI p0 32) (some (db true)) (cond (eqI p0 47) (some (db true)) (cond (leI 127 p0) (cond (leI p0 159) (some (db true)) (some (db (eqI p0 65533)))) (some (db (eqI p0 65533))))))
theorem run (M : Nat) (p0 : Int) : callS (e M) (tblOf []) 12 (.fn 117) [.d (.int .i32) (D.int .i32 p0)] [] (fun v H => finish ty [4] v H) = s M p0 := by kernel_rfl
def c : Con := { run := fun ds => match ds with | [p0] => s FUEL p0.i | _ => none, plain := true }
theorem ok : ConOk (117, c) := mkC Tryz.f117 [(.int .i32)] [4] (by kernel_rfl) (by kernel_rfl) (by kernel_rfl) (by kernel_rfl) allNil allNil AllOk.nil fun a => run FUEL a.1
end F117
namespace F118
def cons : List (Nat × Con) := []
def exts : List (Nat × Ext) := []
def h : List (Nat × Nat × Hint) := [(118, 3, { live := [3, 5] })]
noncomputable def e (M : Nat) : Env := env cons exts h M
structure S3 where
  (i1 : Int) (s2 : ByteArray) (n3 : Nat)
inductive X3 where
  | e0 (i1 : Int) (s2 : ByteArray) (n3 : Nat)
def st3 (M : Nat) : S3 → (S3 → Option D) → (X3 → Option D) → Option D
  | ⟨i1, s2, n3⟩, rec, K => (cond (decide (n3 < s2.size)) (rec ⟨(ad .i64 i1 1), s2, (n3 + (Utf8.decode s2 n3).2)⟩) (K (.e0 i1 s2 n3)))
def lv3 : S3 → List Leaf
  | ⟨i1, s2, n3⟩ => [.i i1, .s s2, .n n3]
def of3 : List Leaf → Option S3
  | [.i i1, .s s2, .n n3] => some ⟨i1, s2, n3⟩
  | _ => none
def ex3 (k : Kont) : X3 → Option D
  | .e0 i1 s2 n3 => k (.exit 0) ((us 3 ((vi i1) :: (us 1 ((.iter 0) :: (.tup [(vb false)]) :: (vb false) :: (us 3 [])))))) [(.iter s2 n3)]
def ps3 : List PV := ((up 3 ((.d (.int .i64) (.int .i64)) :: (up 1 ((.iter 0) :: (up 5 []))))))
def qs3 : List PO := [.iter]
noncomputable def t (M : Nat) : List Ent := ⟨118, 11, 0, 3, sumS [3, 5] ps3 qs3 [] of3 (st3 M) ex3 M⟩ :: []
theorem t_ok (M : Nat) : AllOk (e M) (tblOf (t M)) := AllOk.addS (n0 := 1) (lv := lv3) AllOk.nil (by kernel_rfl) rfl (by intro ls s h; unfold of3 at h; (repeat' split at h) <;> simp at h; subst h; rfl) (by intro s; kernel_rfl) (by intro s; kernel_rfl) (by intro s nx k; kernel_rfl)
def s (M : Nat) (p0 : ByteArray) : Option D :=
  (goS (st3 M) M ⟨0, p0, 0⟩ fun x => match x with | .e0 i1 s2 n3 => (some (di i1)))
theorem run (M : Nat) (p0 : ByteArray) : callS (e M) (tblOf (t M)) 12 (.fn 118) [.d .str (dS p0)] [] (fun v H => finish ty [3] v H) = s M p0 := by kernel_rfl
def c : Con := { run := fun ds => match ds with | [p0] => s FUEL p0.s | _ => none, plain := true }
theorem ok : ConOk (118, c) := mkC Tryz.f118 [.str] [3] (by kernel_rfl) (by kernel_rfl) (by kernel_rfl) (by kernel_rfl) allNil allNil (t_ok FUEL) fun a => run FUEL a.1
end F118
namespace F70
def cons : List (Nat × Con) := [(117, F117.c), (118, F118.c)]
def exts : List (Nat × Ext) := []
def h : List (Nat × Nat × Hint) := [(142, 2, { live := [1, 2, 10] })]
noncomputable def e (M : Nat) : Env := env cons exts h M
structure S142_2 where
  (b2 : Bool) (s3 : ByteArray) (n4 : Nat)
inductive X142_2 where
  | e0 (b2 : Bool) (s3 : ByteArray) (n4 : Nat) (r5 r6 : D)
  | e1 (b2 : Bool) (s3 : ByteArray) (n4 : Nat)
def st142_2 (M : Nat) : S142_2 → (S142_2 → Option D) → (X142_2 → Option D) → Option D
  | ⟨b2, s3, n4⟩, rec, K => (cond (decide (n4 < s3.size)) (bd (F117.s FUEL ((Utf8.decode s3 n4).1 : Int)) fun r5 => (bd (match D.eqv ty eqDepth r5 (db b2) .bool with | some z => some (.bool z) | none => none) fun r6 => (cond r6.b (K (.e0 b2 s3 n4 r5 r6)) (rec ⟨b2, s3, (n4 + (Utf8.decode s3 n4).2)⟩)))) (K (.e1 b2 s3 n4)))
def lv142_2 : S142_2 → List Leaf
  | ⟨b2, s3, n4⟩ => [.b b2, .s s3, .n n4]
def of142_2 : List Leaf → Option S142_2
  | [.b b2, .s s3, .n n4] => some ⟨b2, s3, n4⟩
  | _ => none
def ex142_2 (k : Kont) : X142_2 → Option D
  | .e0 b2 s3 n4 r5 r6 => k .ret ((us 1 ((vk .func (D.fn 117)) :: (vb b2) :: (us 3 ((vi (nI n4)) :: (vi (nI n4)) :: (vk (.int .i32) (D.int .i32 ((Utf8.decode s3 n4).1 : Int))) :: (us 1 ((.iter 0) :: (.tup [(vb true), (vi (nI n4)), (vk (.int .i32) (D.int .i32 ((Utf8.decode s3 n4).1 : Int)))]) :: (vb true) :: (vi (nI n4)) :: (vk (.int .i32) (D.int .i32 ((Utf8.decode s3 n4).1 : Int))) :: (vk .func (D.fn 117)) :: (vk (.int .i32) (D.int .i32 ((Utf8.decode s3 n4).1 : Int))) :: (vk .bool r5) :: (vb b2) :: (vk .bool r6) :: (vi (nI n4)) :: []))))))) [(.iter s3 (n4 + (Utf8.decode s3 n4).2))]
  | .e1 b2 s3 n4 => k (.exit 0) ((us 1 ((vk .func (D.fn 117)) :: (vb b2) :: (us 7 ((.iter 0) :: (.tup [(vb false)]) :: (vb false) :: (us 8 [])))))) [(.iter s3 n4)]
def ps142_2 : List PV := ((up 1 ((.d .func (.fn 117)) :: (.d .bool .bool) :: (up 7 ((.iter 0) :: (up 10 []))))))
def qs142_2 : List PO := [.iter]
noncomputable def t (M : Nat) : List Ent := ⟨142, 9, 0, 2, sumS [1, 2, 10] ps142_2 qs142_2 [] of142_2 (st142_2 M) ex142_2 M⟩ :: []
theorem t_ok (M : Nat) : AllOk (e M) (tblOf (t M)) := AllOk.addS (n0 := 1) (lv := lv142_2) AllOk.nil (by kernel_rfl) rfl (by intro ls s h; unfold of142_2 at h; (repeat' split at h) <;> simp at h; subst h; rfl) (by intro s; kernel_rfl) (by intro s; kernel_rfl) (by intro s nx k; kernel_rfl)
def s (M : Nat) (p0 : ByteArray) : Option D :=
  (bd (F118.s FUEL p0) fun r1 => (cond (gtI r1.i 0) (cond (leI r1.i 24) (goS (st142_2 M) M ⟨true, p0, 0⟩ fun x => match x with | .e0 b2 s3 n4 r5 r6 => (cond (ltI (nI n4) 0) (cond (inb 0 p0.size) (cond (neI (byteAt p0 0) 32) (cond (inb (sb .i64 (nI p0.size) 1) p0.size) (some (db (neI (byteAt p0 (sb .i64 (nI p0.size) 1).toNat) 32))) none) (some (db false))) none) (some (db false))) | .e1 b2 s3 n4 => (cond (inb 0 p0.size) (cond (neI (byteAt p0 0) 32) (cond (inb (sb .i64 (nI p0.size) 1) p0.size) (some (db (neI (byteAt p0 (sb .i64 (nI p0.size) 1).toNat) 32))) none) (some (db false))) none)) (some (db false))) (some (db false))))
theorem run (M : Nat) (p0 : ByteArray) : callS (e M) (tblOf (t M)) 12 (.fn 70) [.d .str (dS p0)] [] (fun v H => finish ty [4] v H) = s M p0 := by kernel_rfl
def c : Con := { run := fun ds => match ds with | [p0] => s FUEL p0.s | _ => none, plain := true }
theorem ok : ConOk (70, c) := mkC Tryz.f70 [.str] [4] (by kernel_rfl) (by kernel_rfl) (by kernel_rfl) (by kernel_rfl) (allCons F117.ok (allCons F118.ok allNil)) allNil (t_ok FUEL) fun a => run FUEL a.1
end F70
namespace F71
def s (M : Nat) (p0 : Int) (p1 : Int) (p2 : Int) : Option D :=
  (cond (leI p1 p0) (some (db (leI p0 p2))) (some (db false)))
def c : Con := { run := fun ds => match ds with | [p0, p1, p2] => s FUEL p0.i p1.i p2.i | _ => none, plain := true }
end F71
namespace F34
end F34
namespace F36
end F36
namespace F122
def cons : List (Nat × Con) := []
def exts : List (Nat × Ext) := []
def h : List (Nat × Nat × Hint) := []
noncomputable def e (M : Nat) : Env := env cons exts h M
def s (M : Nat) (p0 : Int) : Option D :=
  (cond (geI p0 0) (some (db (leI p0 1099511627776))) (some (db false)))
theorem run (M : Nat) (p0 : Int) : callS (e M) (tblOf []) 12 (.fn 122) [.d (.int .i64) (di p0)] [] (fun v H => finish ty [4] v H) = s M p0 := by kernel_rfl
def c : Con := { run := fun ds => match ds with | [p0] => s FUEL p0.i | _ => none, plain := true }
theorem ok : ConOk (122, c) := mkC Tryz.f122 [(.int .i64)] [4] (by kernel_rfl) (by kernel_rfl) (by kernel_rfl) (by kernel_rfl) allNil allNil AllOk.nil fun a => run FUEL a.1
end F122
namespace F76
def cons : List (Nat × Con) := [(122, F122.c)]
def exts : List (Nat × Ext) := []
def h : List (Nat × Nat × Hint) := []
noncomputable def e (M : Nat) : Env := env cons exts h M
def s (M : Nat) (p0 : D) (p1 : Int) : Option D :=
  (cond (p0.at 3).b (some (D.tup [p0, (di 5)])) (bd (F122.s FUEL p1) fun r1 => (cond (!r1.b) (some (D.tup [p0, (di 1)])) (some (D.tup [(D.agg ((D.agg (p0.parts.set 3 (db true))).parts.set 4 (di p1))), (di 0)])))))
theorem run (M : Nat) (p0 : D) (p1 : Int) : callS (e M) (tblOf []) 12 (.fn 76) [.d (.struct [3, 9, 9, 4, 3, 37]) p0, .d (.int .i64) (di p1)] [] (fun v H => finish ty [39, 36] v H) = s M p0 p1 := by kernel_rfl
def c : Con := { run := fun ds => match ds with | [p0, p1] => s FUEL p0 p1.i | _ => none }
theorem ok : ConOk (76, c) := mkC Tryz.f76 [(.struct [3, 9, 9, 4, 3, 37]), (.int .i64)] [39, 36] (by kernel_rfl) (by kernel_rfl) (by kernel_rfl) (by kernel_rfl) (allCons F122.ok allNil) allNil AllOk.nil fun a => run FUEL a.1 a.2.1
end F76
namespace F79
def cons : List (Nat × Con) := [(122, F122.c)]
def exts : List (Nat × Ext) := []
def h : List (Nat × Nat × Hint) := []
noncomputable def e (M : Nat) : Env := env cons exts h M
def s (M : Nat) (p0 : D) (p1 : Int) : Option D :=
  (cond (!(p0.at 3).b) (some (D.tup [p0, (di 6)])) (bd (F122.s FUEL p1) fun r1 => (cond (!r1.b) (some (D.tup [p0, (di 1)])) (cond (ltI p1 (p0.at 4).i) (some (D.tup [p0, (di 7)])) (some (D.tup [(D.agg (p0.parts.set 4 (di p1))), (di 0)]))))))
theorem run (M : Nat) (p0 : D) (p1 : Int) : callS (e M) (tblOf []) 12 (.fn 79) [.d (.struct [3, 9, 9, 4, 3, 37]) p0, .d (.int .i64) (di p1)] [] (fun v H => finish ty [39, 36] v H) = s M p0 p1 := by kernel_rfl
def c : Con := { run := fun ds => match ds with | [p0, p1] => s FUEL p0 p1.i | _ => none }
theorem ok : ConOk (79, c) := mkC Tryz.f79 [(.struct [3, 9, 9, 4, 3, 37]), (.int .i64)] [39, 36] (by kernel_rfl) (by kernel_rfl) (by kernel_rfl) (by kernel_rfl) (allCons F122.ok allNil) allNil AllOk.nil fun a => run FUEL a.1 a.2.1
end F79
namespace F128
def cons : List (Nat × Con) := []
def exts : List (Nat × Ext) := []
def h : List (Nat × Nat × Hint) := [(128, 2, { live := [0, 1, 7, 8] })]
noncomputable def e (M : Nat) : Env := env cons exts h M
structure S2 where
  (d1 : D) (s2 : ByteArray) (i3 i4 : Int)
inductive X2 where
  | e0 (d1 : D) (s2 : ByteArray) (i3 i4 : Int)
  | e1 (d1 : D) (s2 : ByteArray) (i3 i4 : Int)
def st2 (M : Nat) : S2 → (S2 → Option D) → (X2 → Option D) → Option D
  | ⟨d1, s2, i3, i4⟩, rec, K => (cond (ltI i4 i3) (cond (inb i4 d1.elems.length) (cond (eqS s2 (ix d1.elems i4.toNat).s) (K (.e0 d1 s2 i3 i4)) (rec ⟨d1, s2, i3, (ad .i64 i4 1)⟩)) none) (K (.e1 d1 s2 i3 i4)))
def lv2 : S2 → List Leaf
  | ⟨d1, s2, i3, i4⟩ => [.d d1, .s s2, .i i3, .i i4]
def of2 : List Leaf → Option S2
  | [.d d1, .s s2, .i i3, .i i4] => some ⟨d1, s2, i3, i4⟩
  | _ => none
def ex2 (k : Kont) : X2 → Option D
  | .e0 d1 s2 i3 i4 => k .ret ((vk (.slice 9) d1) :: (vS s2) :: (us 2 ((vi i4) :: (vi i4) :: (us 1 ((vi i3) :: (vi i4) :: (vb (ltI i4 i3)) :: (vi i4) :: (vS s2) :: (vk (.slice 9) d1) :: (vi i4) :: (.cptr .str (ix d1.elems i4.toNat)) :: (vk .str (ix d1.elems i4.toNat)) :: (vb (eqS s2 (ix d1.elems i4.toNat).s)) :: (vi i4) :: (us 1 [])))))) []
  | .e1 d1 s2 i3 i4 => k (.exit 0) ((vk (.slice 9) d1) :: (vS s2) :: (us 5 ((vi i3) :: (vi i4) :: (vb (ltI i4 i3)) :: (us 9 [])))) []
def ps2 : List PV := ((.d (.slice 9) .x) :: (.d .str .str) :: (up 5 ((.d (.int .i64) (.int .i64)) :: (.d (.int .i64) (.int .i64)) :: (up 10 []))))
def qs2 : List PO := []
noncomputable def t (M : Nat) : List Ent := ⟨128, 11, 0, 2, sumS [0, 1, 7, 8] ps2 qs2 [] of2 (st2 M) ex2 M⟩ :: []
theorem t_ok (M : Nat) : AllOk (e M) (tblOf (t M)) := AllOk.addS (n0 := 0) (lv := lv2) AllOk.nil (by kernel_rfl) rfl (by intro ls s h; unfold of2 at h; (repeat' split at h) <;> simp at h; subst h; rfl) (by intro s; kernel_rfl) (by intro s; kernel_rfl) (by intro s nx k; kernel_rfl)
def s (M : Nat) (p0 : D) (p1 : ByteArray) : Option D :=
  (goS (st2 M) M ⟨p0, p1, (nI p0.elems.length), 0⟩ fun x => match x with | .e0 d1 s2 i3 i4 => (some (di i4)) | .e1 d1 s2 i3 i4 => (some (di (-1))))
theorem run (M : Nat) (p0 : D) (p1 : ByteArray) : callS (e M) (tblOf (t M)) 12 (.fn 128) [.d (.slice 9) p0, .d .str (dS p1)] [] (fun v H => finish ty [3] v H) = s M p0 p1 := by kernel_rfl
def c : Con := { run := fun ds => match ds with | [p0, p1] => s FUEL p0 p1.s | _ => none, plain := true }
theorem ok : ConOk (128, c) := mkC Tryz.f128 [(.slice 9), .str] [3] (by kernel_rfl) (by kernel_rfl) (by kernel_rfl) (by kernel_rfl) allNil allNil (t_ok FUEL) fun a => run FUEL a.1 a.2.1
end F128
namespace F123
def cons : List (Nat × Con) := [(128, F128.c)]
def exts : List (Nat × Ext) := []
def h : List (Nat × Nat × Hint) := []
noncomputable def e (M : Nat) : Env := env cons exts h M
def s (M : Nat) (p0 : D) (p1 : ByteArray) : Option D :=
  (bd (F128.s FUEL p0 p1) fun r1 => (some (db (geI r1.i 0))))
theorem run (M : Nat) (p0 : D) (p1 : ByteArray) : callS (e M) (tblOf []) 12 (.fn 123) [.d (.slice 9) p0, .d .str (dS p1)] [] (fun v H => finish ty [4] v H) = s M p0 p1 := by kernel_rfl
def c : Con := { run := fun ds => match ds with | [p0, p1] => s FUEL p0 p1.s | _ => none, plain := true }
theorem ok : ConOk (123, c) := mkC Tryz.f123 [(.slice 9), .str] [4] (by kernel_rfl) (by kernel_rfl) (by kernel_rfl) (by kernel_rfl) (allCons F128.ok allNil) allNil AllOk.nil fun a => run FUEL a.1 a.2.1
end F123
namespace F147
def cons : List (Nat × Con) := [(155, decodeC)]
def exts : List (Nat × Ext) := []
def h : List (Nat × Nat × Hint) := []
noncomputable def e (M : Nat) : Env := env cons exts h M
def s (M : Nat) (p0 : ByteArray) (p1 : Int) (p2 : Int) : Option D :=
  (cond (neI p2 65533) (some (db false)) (cond ((leI 0 p1) && (leI p1 (nI p0.size)) && (leI (nI p0.size) (nI p0.size)) && (leI (nI p0.size) (nI p0.size))) (some (db (ltI ((Lib.decodeGo (p0.extract p1.toNat p0.size)).2 : Int) 2))) none))
theorem run (M : Nat) (p0 : ByteArray) (p1 : Int) (p2 : Int) : callS (e M) (tblOf []) 12 (.fn 147) [.d .str (dS p0), .d (.int .i64) (di p1), .d (.int .i32) (D.int .i32 p2)] [] (fun v H => finish ty [4] v H) = s M p0 p1 p2 := by kernel_rfl
def c : Con := { run := fun ds => match ds with | [p0, p1, p2] => s FUEL p0.s p1.i p2.i | _ => none, plain := true }
theorem ok : ConOk (147, c) := mkC Tryz.f147 [.str, (.int .i64), (.int .i32)] [4] (by kernel_rfl) (by kernel_rfl) (by kernel_rfl) (by kernel_rfl) (allCons decode_ok allNil) allNil AllOk.nil fun a => run FUEL a.1 a.2.1 a.2.2.1
end F147
namespace F136
def cons : List (Nat × Con) := [(147, F147.c)]
def exts : List (Nat × Ext) := []
def h : List (Nat × Nat × Hint) := [(136, 3, { live := [0, 3, 7], rows := [(3, 21)] })]
noncomputable def e (M : Nat) : Env := env cons exts h M
structure S3 where
  (s1 : ByteArray) (n2 n3 : Nat) (s4 : ByteArray) (n5 : Nat) (b6 : Bool) (l7 : List D)
inductive X3 where
  | e0 (s1 : ByteArray) (n2 n3 : Nat) (s4 : ByteArray) (n5 : Nat) (b6 : Bool) (l7 : List D)
def st3 (M : Nat) : S3 → (S3 → Option D) → (X3 → Option D) → Option D
  | ⟨s1, n2, n3, s4, n5, b6, l7⟩, rec, K => (cond (decide (n5 < s4.size)) (bd (F147.s FUEL s1 (nI n5) ((Utf8.decode s4 n5).1 : Int)) fun r8 => (cond r8.b (cond (inb (nI n5) s1.size) (cond (mx (n3 + 1)) (rec ⟨s1, 0, (n3 + 1), s4, (n5 + (Utf8.decode s4 n5).2), (b6 || true), (ap ((l7.drop n2).take n3) [(D.int .i32 (ad .i32 1114112 (cv .i32 (byteAt s1 n5))))])⟩) none) none) (cond (mx (n3 + 1)) (rec ⟨s1, 0, (n3 + 1), s4, (n5 + (Utf8.decode s4 n5).2), (b6 || true), (ap ((l7.drop n2).take n3) [(D.int .i32 ((Utf8.decode s4 n5).1 : Int))])⟩) none))) (K (.e0 s1 n2 n3 s4 n5 b6 l7)))
def lv3 : S3 → List Leaf
  | ⟨s1, n2, n3, s4, n5, b6, l7⟩ => [.s s1, .n n2, .n n3, .s s4, .n n5, .b b6, .l l7]
def of3 : List Leaf → Option S3
  | [.s s1, .n n2, .n n3, .s s4, .n n5, .b b6, .l l7] => some ⟨s1, n2, n3, s4, n5, b6, l7⟩
  | _ => none
def ex3 (k : Kont) : X3 → Option D
  | .e0 s1 n2 n3 s4 n5 b6 l7 => k (.exit 0) ((vS s1) :: (us 2 ((.sref 1 n2 n3) :: (us 3 ((.iter 0) :: (.tup [(vb false)]) :: (vb false) :: (us 16 [])))))) [(.iter s4 n5), (.row 21 true b6 l7)]
def ps3 : List PV := ((.d .str .str) :: (up 2 ((.sref 1) :: (up 3 ((.iter 0) :: (up 18 []))))))
def qs3 : List PO := [.iter, (.row 21 true)]
noncomputable def t (M : Nat) : List Ent := ⟨136, 11, 0, 3, sumS [0, 3, 7] ps3 qs3 [(3, 1)] of3 (st3 M) ex3 M⟩ :: []
theorem t_ok (M : Nat) : AllOk (e M) (tblOf (t M)) := AllOk.addS (n0 := 2) (lv := lv3) AllOk.nil (by kernel_rfl) rfl (by intro ls s h; unfold of3 at h; (repeat' split at h) <;> simp at h; subst h; rfl) (by intro s; kernel_rfl) (by intro s; kernel_rfl) (by intro s nx k; kernel_rfl)
def s (M : Nat) (p0 : ByteArray) : Option D :=
  (goS (st3 M) M ⟨p0, 0, 0, p0, 0, false, []⟩ fun x => match x with | .e0 s1 n2 n3 s4 n5 b6 l7 => (cond ((decide (n3 = l7.length)) && (decide (n2 = 0))) (some (.slice b6 l7)) none))
theorem run (M : Nat) (p0 : ByteArray) : callS (e M) (tblOf (t M)) 12 (.fn 136) [.d .str (dS p0)] [] (fun v H => finishFresh ty [181] v H) = s M p0 := by kernel_rfl
def c : Con := { run := fun ds => match ds with | [p0] => s FUEL p0.s | _ => none, fresh := true }
theorem ok : ConOk (136, c) := mkF Tryz.f136 [.str] [181] (by kernel_rfl) (by kernel_rfl) (by kernel_rfl) (allCons F147.ok allNil) allNil (t_ok FUEL) fun a => run FUEL a.1
end F136
namespace F102
def cons : List (Nat × Con) := [(136, F136.c)]
def exts : List (Nat × Ext) := []
def h : List (Nat × Nat × Hint) := [(102, 3, { live := [5, 6, 13, 14, 15] })]
noncomputable def e (M : Nat) : Env := env cons exts h M
structure S3 where
  (n3 n4 n5 n6 n7 n8 : Nat) (i9 i10 : Int) (b11 : Bool) (l12 : List D) (b13 : Bool) (l14 : List D)
inductive X3 where
  | e0 (n3 n4 n5 n6 n7 n8 : Nat) (i9 i10 : Int) (b11 : Bool) (l12 : List D) (b13 : Bool) (l14 : List D)
  | e1 (n3 n4 n5 n6 n7 n8 : Nat) (i9 i10 : Int) (b11 : Bool) (l12 : List D) (b13 : Bool) (l14 : List D)
  | e2 (n3 n4 n5 n6 n7 n8 : Nat) (i9 i10 : Int) (b11 : Bool) (l12 : List D) (b13 : Bool) (l14 : List D)
def st3 (M : Nat) : S3 → (S3 → Option D) → (X3 → Option D) → Option D
  | ⟨n3, n4, n5, n6, n7, n8, i9, i10, b11, l12, b13, l14⟩, rec, K => (cond (ltI i10 i9) (cond (inb i10 n8) (cond (geI i10 (nI n6)) (K (.e0 n3 n4 n5 n6 n7 n8 i9 i10 b11 l12 b13 l14)) (cond (inb i10 n6) (cond (neI (ix l12 (n7 + i10.toNat)).i (ix l14 (n5 + i10.toNat)).i) (cond (inb i10 n6) (K (.e1 n3 n4 n5 n6 n7 n8 i9 i10 b11 l12 b13 l14)) none) (rec ⟨n3, n4, n5, n6, n7, n8, i9, (ad .i64 i10 1), b11, l12, b13, l14⟩)) none)) none) (K (.e2 n3 n4 n5 n6 n7 n8 i9 i10 b11 l12 b13 l14)))
def lv3 : S3 → List Leaf
  | ⟨n3, n4, n5, n6, n7, n8, i9, i10, b11, l12, b13, l14⟩ => [.n n3, .n n4, .n n5, .n n6, .n n7, .n n8, .i i9, .i i10, .b b11, .l l12, .b b13, .l l14]
def of3 : List Leaf → Option S3
  | [.n n3, .n n4, .n n5, .n n6, .n n7, .n n8, .i i9, .i i10, .b b11, .l l12, .b b13, .l l14] => some ⟨n3, n4, n5, n6, n7, n8, i9, i10, b11, l12, b13, l14⟩
  | _ => none
def ex3 (k : Kont) : X3 → Option D
  | .e0 n3 n4 n5 n6 n7 n8 i9 i10 b11 l12 b13 l14 => k .ret ((us 4 ((vb false) :: (.sref 0 n3 n4) :: (.sref 1 n5 n6) :: (vi i10) :: (vk (.int .i32) (ix l12 (n7 + i10.toNat))) :: (us 4 ((.sref 0 n7 n8) :: (vi i9) :: (vi i10) :: (vb (ltI i10 i9)) :: (vi i10) :: (.ptr 0 [(n7 + i10.toNat)] (.int .i32)) :: (vk (.int .i32) (ix l12 (n7 + i10.toNat))) :: (vi i10) :: (.sref 1 n5 n6) :: (vi (nI n6)) :: (vb (geI i10 (nI n6))) :: (us 18 [])))))) [(.row 21 true b11 l12), (.row 21 true b13 l14)]
  | .e1 n3 n4 n5 n6 n7 n8 i9 i10 b11 l12 b13 l14 => k .ret ((us 4 ((vb (ltI (ix l12 (n7 + i10.toNat)).i (ix l14 (n5 + i10.toNat)).i)) :: (.sref 0 n3 n4) :: (.sref 1 n5 n6) :: (vi i10) :: (vk (.int .i32) (ix l12 (n7 + i10.toNat))) :: (us 4 ((.sref 0 n7 n8) :: (vi i9) :: (vi i10) :: (vb (ltI i10 i9)) :: (vi i10) :: (.ptr 0 [(n7 + i10.toNat)] (.int .i32)) :: (vk (.int .i32) (ix l12 (n7 + i10.toNat))) :: (vi i10) :: (.sref 1 n5 n6) :: (vi (nI n6)) :: (vb (geI i10 (nI n6))) :: (vk (.int .i32) (ix l12 (n7 + i10.toNat))) :: (.sref 1 n5 n6) :: (vi i10) :: (.ptr 1 [(n5 + i10.toNat)] (.int .i32)) :: (vk (.int .i32) (ix l14 (n5 + i10.toNat))) :: (vb (neI (ix l12 (n7 + i10.toNat)).i (ix l14 (n5 + i10.toNat)).i)) :: (vk (.int .i32) (ix l12 (n7 + i10.toNat))) :: (.sref 1 n5 n6) :: (vi i10) :: (.ptr 1 [(n5 + i10.toNat)] (.int .i32)) :: (vk (.int .i32) (ix l14 (n5 + i10.toNat))) :: (vb (ltI (ix l12 (n7 + i10.toNat)).i (ix l14 (n5 + i10.toNat)).i)) :: (us 6 [])))))) [(.row 21 true b11 l12), (.row 21 true b13 l14)]
  | .e2 n3 n4 n5 n6 n7 n8 i9 i10 b11 l12 b13 l14 => k (.exit 0) ((us 5 ((.sref 0 n3 n4) :: (.sref 1 n5 n6) :: (us 6 ((.sref 0 n7 n8) :: (vi i9) :: (vi i10) :: (vb (ltI i10 i9)) :: (us 25 [])))))) [(.row 21 true b11 l12), (.row 21 true b13 l14)]
def ps3 : List PV := ((up 5 ((.sref 0) :: (.sref 1) :: (up 6 ((.sref 0) :: (.d (.int .i64) (.int .i64)) :: (.d (.int .i64) (.int .i64)) :: (up 26 []))))))
def qs3 : List PO := [(.row 21 true), (.row 21 true)]
noncomputable def t (M : Nat) : List Ent := ⟨102, 11, 0, 3, sumS [5, 6, 13, 14, 15] ps3 qs3 [] of3 (st3 M) ex3 M⟩ :: []
theorem t_ok (M : Nat) : AllOk (e M) (tblOf (t M)) := AllOk.addS (n0 := 2) (lv := lv3) AllOk.nil (by kernel_rfl) rfl (by intro ls s h; unfold of3 at h; (repeat' split at h) <;> simp at h; subst h; rfl) (by intro s; kernel_rfl) (by intro s; kernel_rfl) (by intro s nx k; kernel_rfl)
def s (M : Nat) (p0 : ByteArray) (p1 : ByteArray) : Option D :=
  (bd (F136.s FUEL p0) fun r1 => (bd (F136.s FUEL p1) fun r2 => (goS (st3 M) M ⟨0, r1.elems.length, 0, r2.elems.length, 0, r1.elems.length, (nI r1.elems.length), 0, r1.nn, r1.elems, r2.nn, r2.elems⟩ fun x => match x with | .e0 n3 n4 n5 n6 n7 n8 i9 i10 b11 l12 b13 l14 => (some (db false)) | .e1 n3 n4 n5 n6 n7 n8 i9 i10 b11 l12 b13 l14 => (some (db (ltI (ix l12 (n7 + i10.toNat)).i (ix l14 (n5 + i10.toNat)).i))) | .e2 n3 n4 n5 n6 n7 n8 i9 i10 b11 l12 b13 l14 => (some (db (ltI (nI n4) (nI n6)))))))
theorem run (M : Nat) (p0 : ByteArray) (p1 : ByteArray) : callS (e M) (tblOf (t M)) 12 (.fn 102) [.d .str (dS p0), .d .str (dS p1)] [] (fun v H => finish ty [4] v H) = s M p0 p1 := by kernel_rfl
def c : Con := { run := fun ds => match ds with | [p0, p1] => s FUEL p0.s p1.s | _ => none, plain := true }
theorem ok : ConOk (102, c) := mkC Tryz.f102 [.str, .str] [4] (by kernel_rfl) (by kernel_rfl) (by kernel_rfl) (by kernel_rfl) (allCons F136.ok allNil) allNil (t_ok FUEL) fun a => run FUEL a.1 a.2.1
end F102
namespace F125
end F125
namespace F127
def cons : List (Nat × Con) := []
def exts : List (Nat × Ext) := []
def h : List (Nat × Nat × Hint) := []
noncomputable def e (M : Nat) : Env := env cons exts h M
def s (M : Nat) (p0 : D) : Option D :=
  (cond (!p0.nn) (some (.slice false [])) (cond (mx p0.elems.length) (cond ((decide (p0.elems.length = p0.elems.length)) && true) (some (.slice true p0.elems)) none) none))
theorem run (M : Nat) (p0 : D) : callS (e M) (tblOf []) 12 (.fn 127) [.d (.slice 9) p0] [] (fun v H => finishFresh ty [37] v H) = s M p0 := by kernel_rfl
def c : Con := { run := fun ds => match ds with | [p0] => s FUEL p0 | _ => none, fresh := true }
theorem ok : ConOk (127, c) := mkF Tryz.f127 [(.slice 9)] [37] (by kernel_rfl) (by kernel_rfl) (by kernel_rfl) allNil allNil AllOk.nil fun a => run FUEL a.1
end F127
namespace F81
def k0_ : K := (.struct [3, 9, 9, 4, 3, 37])
def cons : List (Nat × Con) := [(70, F70.c), (102, F102.c), (123, F123.c), (127, F127.c)]
def exts : List (Nat × Ext) := [(126, insertX 9)]
def h : List (Nat × Nat × Hint) := [(81, 12, { own := true }), (124, 2, { live := [0, 1, 7, 8] })]
noncomputable def e (M : Nat) : Env := env cons exts h M
structure S124_2 where
  (d3 : D) (s4 : ByteArray) (i5 i6 : Int) (d7 : D) (i8 : Int) (s9 s10 : ByteArray) (b11 : Bool) (i12 : Int) (b13 : Bool) (l14 : List D)
inductive X124_2 where
  | e0 (d3 : D) (s4 : ByteArray) (i5 i6 : Int) (d7 : D) (i8 : Int) (s9 s10 : ByteArray) (b11 : Bool) (i12 : Int) (b13 : Bool) (l14 : List D) (r15 : D)
  | e1 (d3 : D) (s4 : ByteArray) (i5 i6 : Int) (d7 : D) (i8 : Int) (s9 s10 : ByteArray) (b11 : Bool) (i12 : Int) (b13 : Bool) (l14 : List D)
def st124_2 (M : Nat) : S124_2 → (S124_2 → Option D) → (X124_2 → Option D) → Option D
  | ⟨d3, s4, i5, i6, d7, i8, s9, s10, b11, i12, b13, l14⟩, rec, K => (cond (ltI i6 i5) (cond (inb i6 d3.elems.length) (bd (F102.s FUEL (ix d3.elems i6.toNat).s s4) fun r15 => (cond (!r15.b) (K (.e0 d3 s4 i5 i6 d7 i8 s9 s10 b11 i12 b13 l14 r15)) (rec ⟨d3, s4, i5, (ad .i64 i6 1), d7, i8, s9, s10, b11, i12, b13, l14⟩))) none) (K (.e1 d3 s4 i5 i6 d7 i8 s9 s10 b11 i12 b13 l14)))
def lv124_2 : S124_2 → List Leaf
  | ⟨d3, s4, i5, i6, d7, i8, s9, s10, b11, i12, b13, l14⟩ => [.d d3, .s s4, .i i5, .i i6, .d d7, .i i8, .s s9, .s s10, .b b11, .i i12, .b b13, .l l14]
def of124_2 : List Leaf → Option S124_2
  | [.d d3, .s s4, .i i5, .i i6, .d d7, .i i8, .s s9, .s s10, .b b11, .i i12, .b b13, .l l14] => some ⟨d3, s4, i5, i6, d7, i8, s9, s10, b11, i12, b13, l14⟩
  | _ => none
def ex124_2 (k : Kont) : X124_2 → Option D
  | .e0 d3 s4 i5 i6 d7 i8 s9 s10 b11 i12 b13 l14 r15 => k .ret ((vk (.slice 9) d3) :: (.func (.func 125) [(vS s4)] []) :: (us 2 ((vi i6) :: (vi i6) :: (us 1 ((vi i5) :: (vi i6) :: (vb (ltI i6 i5)) :: (vi i6) :: (.func (.func 125) [(vS s4)] []) :: (vk (.slice 9) d3) :: (vi i6) :: (.cptr .str (ix d3.elems i6.toNat)) :: (vk .str (ix d3.elems i6.toNat)) :: (vb (!r15.b)) :: (vi i6) :: (us 1 [])))))) [(.var k0_ (vk k0_ d7)), (.var k0_ (vk k0_ (da [(di i8), (dS s9), (dS s10), (db b11), (di i12), (dl b13 l14)])))]
  | .e1 d3 s4 i5 i6 d7 i8 s9 s10 b11 i12 b13 l14 => k (.exit 0) ((vk (.slice 9) d3) :: (.func (.func 125) [(vS s4)] []) :: (us 5 ((vi i5) :: (vi i6) :: (vb (ltI i6 i5)) :: (us 9 [])))) [(.var k0_ (vk k0_ d7)), (.var k0_ (vk k0_ (da [(di i8), (dS s9), (dS s10), (db b11), (di i12), (dl b13 l14)])))]
def ps124_2 : List PV := ((.d (.slice 9) .x) :: (.func 125 [(.d .str .str)] []) :: (up 5 ((.d (.int .i64) (.int .i64)) :: (.d (.int .i64) (.int .i64)) :: (up 10 []))))
def qs124_2 : List PO := [(.var k0_ (.d k0_ .x)), (.var k0_ (.d k0_ (.agg [(.int .i64), .str, .str, .bool, (.int .i64), .slice])))]
noncomputable def t (M : Nat) : List Ent := ⟨124, 10, 2, 2, sumS [0, 1, 7, 8] ps124_2 qs124_2 [] of124_2 (st124_2 M) ex124_2 M⟩ :: []
theorem t_ok (M : Nat) : AllOk (e M) (tblOf (t M)) := AllOk.addS (n0 := 2) (lv := lv124_2) AllOk.nil (by kernel_rfl) rfl (by intro ls s h; unfold of124_2 at h; (repeat' split at h) <;> simp at h; subst h; rfl) (by intro s; kernel_rfl) (by intro s; kernel_rfl) (by intro s nx k; kernel_rfl)
def s (M : Nat) (p0 : D) (p1 : ByteArray) : Option D :=
  (cond (!(p0.at 3).b) (some (D.tup [p0, (di 6)])) (bd (F70.s FUEL p1) fun r1 => (cond (!r1.b) (some (D.tup [p0, (di 2)])) (bd (F123.s FUEL (p0.at 5) p1) fun r2 => (cond r2.b (some (D.tup [p0, (di 4)])) (cond (geI (nI (p0.at 5).elems.length) 4) (some (D.tup [p0, (di 10)])) (goS (st124_2 M) M ⟨(p0.at 5), p1, (nI (p0.at 5).elems.length), 0, p0, 0, (bs []), (bs []), false, 0, false, []⟩ fun x => match x with | .e0 d3 s4 i5 i6 d7 i8 s9 s10 b11 i12 b13 l14 r15 => (cond (ltI i6 0) (bd (F127.s FUEL (d7.at 5)) fun r16 => (cond (true && true && true && (leI 0 (nI (d7.at 5).elems.length)) && (leI (nI (d7.at 5).elems.length) (nI r16.elems.length)) && (mx (r16.elems.length + 1))) (some (D.tup [(da [(d7.at 0), (d7.at 1), (d7.at 2), (d7.at 3), (d7.at 4), (dl true (((ap (ap (((r16.elems.drop 0).take r16.elems.length).take (d7.at 5).elems.length) [(dS p1)]) (((r16.elems.drop 0).take r16.elems.length).drop (d7.at 5).elems.length)).drop 0).take (r16.elems.length + 1)))]), (di 0)])) none)) (bd (F127.s FUEL (d7.at 5)) fun r17 => (cond (true && true && true && (leI 0 i6) && (leI i6 (nI r17.elems.length)) && (mx (r17.elems.length + 1))) (some (D.tup [(da [(d7.at 0), (d7.at 1), (d7.at 2), (d7.at 3), (d7.at 4), (dl true (((ap (ap (((r17.elems.drop 0).take r17.elems.length).take i6.toNat) [(dS p1)]) (((r17.elems.drop 0).take r17.elems.length).drop i6.toNat)).drop 0).take (r17.elems.length + 1)))]), (di 0)])) none))) | .e1 d3 s4 i5 i6 d7 i8 s9 s10 b11 i12 b13 l14 => (bd (F127.s FUEL (d7.at 5)) fun r18 => (cond (true && true && true && (leI 0 (nI (d7.at 5).elems.length)) && (leI (nI (d7.at 5).elems.length) (nI r18.elems.length)) && (mx (r18.elems.length + 1))) (some (D.tup [(da [(d7.at 0), (d7.at 1), (d7.at 2), (d7.at 3), (d7.at 4), (dl true (((ap (ap (((r18.elems.drop 0).take r18.elems.length).take (d7.at 5).elems.length) [(dS p1)]) (((r18.elems.drop 0).take r18.elems.length).drop (d7.at 5).elems.length)).drop 0).take (r18.elems.length + 1)))]), (di 0)])) none)))))))))
theorem run (M : Nat) (p0 : D) (p1 : ByteArray) : callS (e M) (tblOf (t M)) 12 (.fn 81) [.d (.struct [3, 9, 9, 4, 3, 37]) p0, .d .str (dS p1)] [] (fun v H => finish ty [39, 36] v H) = s M p0 p1 := by kernel_rfl
def c : Con := { run := fun ds => match ds with | [p0, p1] => s FUEL p0 p1.s | _ => none }
theorem ok : ConOk (81, c) := mkC Tryz.f81 [(.struct [3, 9, 9, 4, 3, 37]), .str] [39, 36] (by kernel_rfl) (by kernel_rfl) (by kernel_rfl) (by kernel_rfl) (allCons F70.ok (allCons F102.ok (allCons F123.ok (allCons F127.ok allNil)))) (allCons insert_ok allNil) (t_ok FUEL) fun a => run FUEL a.1 a.2.1
end F81
namespace F83
def cons : List (Nat × Con) := [(127, F127.c), (128, F128.c)]
def exts : List (Nat × Ext) := []
def h : List (Nat × Nat × Hint) := [(129, 5, { inpl := true })]
noncomputable def e (M : Nat) : Env := env cons exts h M
def s (M : Nat) (p0 : D) (p1 : ByteArray) : Option D :=
  (bd (F128.s FUEL (p0.at 5) p1) fun r1 => (cond (ltI r1.i 0) (some (D.tup [p0, (di 3)])) (bd (F127.s FUEL (p0.at 5)) fun r2 => (cond ((leI 0 r1.i) && (leI r1.i (ad .i64 r1.i 1)) && (leI (ad .i64 r1.i 1) (nI r2.elems.length)) && (leI (nI r2.elems.length) (nI r2.elems.length)) && (eqN (0 + r2.elems.length) r2.elems.length)) (cond (eqI r1.i (ad .i64 r1.i 1)) (some (D.tup [(da [(p0.at 0), (p0.at 1), (p0.at 2), (p0.at 3), (p0.at 4), (dl r2.nn ((r2.elems.drop 0).take r2.elems.length))]), (di 0)])) (cond (true && (leI 0 r1.i) && (leN (0 + (r1.i).toNat) r2.elems.length)) (cond ((leI 0 (ad .i64 r1.i 1)) && (leI (ad .i64 r1.i 1) (nI r2.elems.length)) && (leN (0 + r2.elems.length) r2.elems.length)) (cond (leN ((0 + ((r1.i).toNat - 0)) + ((r2.elems.drop (0 + (ad .i64 r1.i 1).toNat)).take (r2.elems.length - (ad .i64 r1.i 1).toNat)).length) r2.elems.length) (cond ((leI 0 (nI (((r1.i).toNat - 0) + ((r2.elems.drop (0 + (ad .i64 r1.i 1).toNat)).take (r2.elems.length - (ad .i64 r1.i 1).toNat)).length))) && (leI (nI (((r1.i).toNat - 0) + ((r2.elems.drop (0 + (ad .i64 r1.i 1).toNat)).take (r2.elems.length - (ad .i64 r1.i 1).toNat)).length)) (nI r2.elems.length)) && (leN (0 + r2.elems.length) (ap (ap (r2.elems.take (0 + ((r1.i).toNat - 0))) ((r2.elems.drop (0 + (ad .i64 r1.i 1).toNat)).take (r2.elems.length - (ad .i64 r1.i 1).toNat))) (r2.elems.drop ((0 + ((r1.i).toNat - 0)) + ((r2.elems.drop (0 + (ad .i64 r1.i 1).toNat)).take (r2.elems.length - (ad .i64 r1.i 1).toNat)).length))).length)) (some (D.tup [(da [(p0.at 0), (p0.at 1), (p0.at 2), (p0.at 3), (p0.at 4), (dl r2.nn (((ap (ap ((ap (ap (r2.elems.take (0 + ((r1.i).toNat - 0))) ((r2.elems.drop (0 + (ad .i64 r1.i 1).toNat)).take (r2.elems.length - (ad .i64 r1.i 1).toNat))) (r2.elems.drop ((0 + ((r1.i).toNat - 0)) + ((r2.elems.drop (0 + (ad .i64 r1.i 1).toNat)).take (r2.elems.length - (ad .i64 r1.i 1).toNat)).length))).take (0 + (((r1.i).toNat - 0) + ((r2.elems.drop (0 + (ad .i64 r1.i 1).toNat)).take (r2.elems.length - (ad .i64 r1.i 1).toNat)).length))) (rp (r2.elems.length - (((r1.i).toNat - 0) + ((r2.elems.drop (0 + (ad .i64 r1.i 1).toNat)).take (r2.elems.length - (ad .i64 r1.i 1).toNat)).length)) (dS (bs [])))) ((ap (ap (r2.elems.take (0 + ((r1.i).toNat - 0))) ((r2.elems.drop (0 + (ad .i64 r1.i 1).toNat)).take (r2.elems.length - (ad .i64 r1.i 1).toNat))) (r2.elems.drop ((0 + ((r1.i).toNat - 0)) + ((r2.elems.drop (0 + (ad .i64 r1.i 1).toNat)).take (r2.elems.length - (ad .i64 r1.i 1).toNat)).length))).drop ((0 + (((r1.i).toNat - 0) + ((r2.elems.drop (0 + (ad .i64 r1.i 1).toNat)).take (r2.elems.length - (ad .i64 r1.i 1).toNat)).length)) + (r2.elems.length - (((r1.i).toNat - 0) + ((r2.elems.drop (0 + (ad .i64 r1.i 1).toNat)).take (r2.elems.length - (ad .i64 r1.i 1).toNat)).length))))).drop 0).take (((r1.i).toNat - 0) + ((r2.elems.drop (0 + (ad .i64 r1.i 1).toNat)).take (r2.elems.length - (ad .i64 r1.i 1).toNat)).length)))]), (di 0)])) none) none) none) none)) none))))
theorem run (M : Nat) (p0 : D) (p1 : ByteArray) : callS (e M) (tblOf []) 12 (.fn 83) [.d (.struct [3, 9, 9, 4, 3, 37]) p0, .d .str (dS p1)] [] (fun v H => finish ty [39, 36] v H) = s M p0 p1 := by kernel_rfl
def c : Con := { run := fun ds => match ds with | [p0, p1] => s FUEL p0 p1.s | _ => none }
theorem ok : ConOk (83, c) := mkC Tryz.f83 [(.struct [3, 9, 9, 4, 3, 37]), .str] [39, 36] (by kernel_rfl) (by kernel_rfl) (by kernel_rfl) (by kernel_rfl) (allCons F127.ok (allCons F128.ok allNil)) allNil AllOk.nil fun a => run FUEL a.1 a.2.1
end F83
namespace F85
def cons : List (Nat × Con) := []
def exts : List (Nat × Ext) := []
def h : List (Nat × Nat × Hint) := []
noncomputable def e (M : Nat) : Env := env cons exts h M
def s (M : Nat) (p0 : D) (p1 : Int) : Option D :=
  (cond (!(p0.at 3).b) (some (di 6)) (cond (ltI p1 (p0.at 4).i) (some (di 8)) (cond (gtI (nI (p0.at 5).elems.length) 0) (some (di 9)) (some (di 0)))))
theorem run (M : Nat) (p0 : D) (p1 : Int) : callS (e M) (tblOf []) 12 (.fn 85) [.d (.struct [3, 9, 9, 4, 3, 37]) p0, .d (.int .i64) (di p1)] [] (fun v H => finish ty [36] v H) = s M p0 p1 := by kernel_rfl
def c : Con := { run := fun ds => match ds with | [p0, p1] => s FUEL p0 p1.i | _ => none, plain := true }
theorem ok : ConOk (85, c) := mkC Tryz.f85 [(.struct [3, 9, 9, 4, 3, 37]), (.int .i64)] [36] (by kernel_rfl) (by kernel_rfl) (by kernel_rfl) (by kernel_rfl) allNil allNil AllOk.nil fun a => run FUEL a.1 a.2.1
end F85
namespace F31
end F31
namespace F16
end F16
namespace F20
end F20
namespace F86
def cons : List (Nat × Con) := []
def exts : List (Nat × Ext) := []
def h : List (Nat × Nat × Hint) := [(86, 4, { live := [0, 1, 12, 13] })]
noncomputable def e (M : Nat) : Env := env cons exts h M
structure S4 where
  (d1 d2 : D) (i3 i4 : Int)
inductive X4 where
  | e0 (d1 d2 : D) (i3 i4 : Int)
  | e1 (d1 d2 : D) (i3 i4 : Int)
def st4 (M : Nat) : S4 → (S4 → Option D) → (X4 → Option D) → Option D
  | ⟨d1, d2, i3, i4⟩, rec, K => (cond (ltI i4 i3) (cond (inb i4 d1.elems.length) (cond (inb i4 d2.elems.length) (cond (!(eqS (ix d1.elems i4.toNat).s (ix d2.elems i4.toNat).s)) (K (.e0 d1 d2 i3 i4)) (rec ⟨d1, d2, i3, (ad .i64 i4 1)⟩)) none) none) (K (.e1 d1 d2 i3 i4)))
def lv4 : S4 → List Leaf
  | ⟨d1, d2, i3, i4⟩ => [.d d1, .d d2, .i i3, .i i4]
def of4 : List Leaf → Option S4
  | [.d d1, .d d2, .i i3, .i i4] => some ⟨d1, d2, i3, i4⟩
  | _ => none
def ex4 (k : Kont) : X4 → Option D
  | .e0 d1 d2 i3 i4 => k .ret ((vk (.slice 9) d1) :: (vk (.slice 9) d2) :: (us 2 ((vb false) :: (vi i4) :: (us 6 ((vi i3) :: (vi i4) :: (vb (ltI i4 i3)) :: (vi i4) :: (vk (.slice 9) d1) :: (vi i4) :: (.cptr .str (ix d1.elems i4.toNat)) :: (vk .str (ix d1.elems i4.toNat)) :: (vk (.slice 9) d2) :: (vi i4) :: (.cptr .str (ix d2.elems i4.toNat)) :: (vk .str (ix d2.elems i4.toNat)) :: (vb (!(eqS (ix d1.elems i4.toNat).s (ix d2.elems i4.toNat).s))) :: (us 1 [])))))) []
  | .e1 d1 d2 i3 i4 => k (.exit 0) ((vk (.slice 9) d1) :: (vk (.slice 9) d2) :: (us 10 ((vi i3) :: (vi i4) :: (vb (ltI i4 i3)) :: (us 11 [])))) []
def ps4 : List PV := ((.d (.slice 9) .x) :: (.d (.slice 9) .x) :: (up 10 ((.d (.int .i64) (.int .i64)) :: (.d (.int .i64) (.int .i64)) :: (up 12 []))))
def qs4 : List PO := []
noncomputable def t (M : Nat) : List Ent := ⟨86, 11, 0, 4, sumS [0, 1, 12, 13] ps4 qs4 [] of4 (st4 M) ex4 M⟩ :: []
theorem t_ok (M : Nat) : AllOk (e M) (tblOf (t M)) := AllOk.addS (n0 := 0) (lv := lv4) AllOk.nil (by kernel_rfl) rfl (by intro ls s h; unfold of4 at h; (repeat' split at h) <;> simp at h; subst h; rfl) (by intro s; kernel_rfl) (by intro s; kernel_rfl) (by intro s nx k; kernel_rfl)
def s (M : Nat) (p0 : D) (p1 : D) : Option D :=
  (cond (neI (nI p0.elems.length) (nI p1.elems.length)) (some (db false)) (goS (st4 M) M ⟨p0, p1, (nI p0.elems.length), 0⟩ fun x => match x with | .e0 d1 d2 i3 i4 => (some (db false)) | .e1 d1 d2 i3 i4 => (some (db true))))
theorem run (M : Nat) (p0 : D) (p1 : D) : callS (e M) (tblOf (t M)) 12 (.fn 86) [.d (.slice 9) p0, .d (.slice 9) p1] [] (fun v H => finish ty [4] v H) = s M p0 p1 := by kernel_rfl
def c : Con := { run := fun ds => match ds with | [p0, p1] => s FUEL p0 p1 | _ => none, plain := true }
theorem ok : ConOk (86, c) := mkC Tryz.f86 [(.slice 9), (.slice 9)] [4] (by kernel_rfl) (by kernel_rfl) (by kernel_rfl) (by kernel_rfl) allNil allNil (t_ok FUEL) fun a => run FUEL a.1 a.2.1
end F86
namespace F40
def cons : List (Nat × Con) := [(86, F86.c)]
def exts : List (Nat × Ext) := []
def h : List (Nat × Nat × Hint) := []
noncomputable def e (M : Nat) : Env := env cons exts h M
def s (M : Nat) (p0 : D) (p1 : D) : Option D :=
  (cond (eqI (p0.at 0).i (p1.at 0).i) (cond (eqS (p0.at 1).s (p1.at 1).s) (cond (eqS (p0.at 2).s (p1.at 2).s) (bd (match D.eqv ty eqDepth (p0.at 3) (p1.at 3) .bool with | some z => some (.bool z) | none => none) fun r1 => (cond r1.b (cond (eqI (p0.at 4).i (p1.at 4).i) (bd (F86.s FUEL (p0.at 5) (p1.at 5)) fun r2 => (some r2)) (some (db false))) (some (db false)))) (some (db false))) (some (db false))) (some (db false)))
theorem run (M : Nat) (p0 : D) (p1 : D) : callS (e M) (tblOf []) 12 (.fn 40) [.d (.struct [3, 9, 9, 4, 3, 37]) p0, .d (.struct [3, 9, 9, 4, 3, 37]) p1] [] (fun v H => finish ty [4] v H) = s M p0 p1 := by kernel_rfl
def c : Con := { run := fun ds => match ds with | [p0, p1] => s FUEL p0 p1 | _ => none, plain := true }
theorem ok : ConOk (40, c) := mkC Tryz.f40 [(.struct [3, 9, 9, 4, 3, 37]), (.struct [3, 9, 9, 4, 3, 37])] [4] (by kernel_rfl) (by kernel_rfl) (by kernel_rfl) (by kernel_rfl) (allCons F86.ok allNil) allNil AllOk.nil fun a => run FUEL a.1 a.2.1
end F40
namespace F39
end F39
namespace F17
end F17
namespace F14
end F14
namespace F7
def cons : List (Nat × Con) := []
def exts : List (Nat × Ext) := []
def h : List (Nat × Nat × Hint) := [(7, 2, { live := [0, 3] })]
noncomputable def e (M : Nat) : Env := env cons exts h M
structure S2 where
  (d1 : D) (i2 : Int)
inductive X2 where
  | e0 (d1 : D) (i2 : Int)
  | e1 (d1 : D) (i2 : Int)
  | e2 (d1 : D) (i2 : Int)
  | e3 (d1 : D) (i2 : Int)
def st2 (M : Nat) : S2 → (S2 → Option D) → (X2 → Option D) → Option D
  | ⟨d1, i2⟩, rec, K => (cond (ltI i2 (nI d1.elems.length)) (cond (leI i2 30) (cond (inb i2 d1.elems.length) (cond (gtI (nI ((ix d1.elems i2.toNat).at 2).s.size) 700) (K (.e0 d1 i2)) (cond (inb i2 d1.elems.length) (cond (gtI (nI ((ix d1.elems i2.toNat).at 1).s.size) 200) (K (.e1 d1 i2)) (rec ⟨d1, (ad .i64 i2 1)⟩)) none)) none) (K (.e2 d1 i2))) (K (.e3 d1 i2)))
def lv2 : S2 → List Leaf
  | ⟨d1, i2⟩ => [.d d1, .i i2]
def of2 : List Leaf → Option S2
  | [.d d1, .i i2] => some ⟨d1, i2⟩
  | _ => none
def ex2 (k : Kont) : X2 → Option D
  | .e0 d1 i2 => k .ret ((vk (.slice 52) d1) :: (us 1 ((vb false) :: (vi i2) :: (vi i2) :: (vk (.slice 52) d1) :: (vi (nI d1.elems.length)) :: (vb (ltI i2 (nI d1.elems.length))) :: (vb true) :: (vi i2) :: (vb (leI i2 30)) :: (vb (leI i2 30)) :: (us 2 ((vk (.slice 52) d1) :: (vi i2) :: (.cptr (.struct [50, 9, 9, 3, 3, 3]) (ix d1.elems i2.toNat)) :: (.cptr .str ((ix d1.elems i2.toNat).at 2)) :: (vk .str ((ix d1.elems i2.toNat).at 2)) :: (vi (nI ((ix d1.elems i2.toNat).at 2).s.size)) :: (vb (gtI (nI ((ix d1.elems i2.toNat).at 2).s.size) 700)) :: (vb true) :: v0 :: v0 :: v0 :: v0 :: v0 :: v0 :: v0 :: (vb true) :: (us 3 [])))))) []
  | .e1 d1 i2 => k .ret ((vk (.slice 52) d1) :: (us 1 ((vb false) :: (vi i2) :: (vi i2) :: (vk (.slice 52) d1) :: (vi (nI d1.elems.length)) :: (vb (ltI i2 (nI d1.elems.length))) :: (vb true) :: (vi i2) :: (vb (leI i2 30)) :: (vb (leI i2 30)) :: (us 2 ((vk (.slice 52) d1) :: (vi i2) :: (.cptr (.struct [50, 9, 9, 3, 3, 3]) (ix d1.elems i2.toNat)) :: (.cptr .str ((ix d1.elems i2.toNat).at 2)) :: (vk .str ((ix d1.elems i2.toNat).at 2)) :: (vi (nI ((ix d1.elems i2.toNat).at 2).s.size)) :: (vb (gtI (nI ((ix d1.elems i2.toNat).at 2).s.size) 700)) :: (vb false) :: (vk (.slice 52) d1) :: (vi i2) :: (.cptr (.struct [50, 9, 9, 3, 3, 3]) (ix d1.elems i2.toNat)) :: (.cptr .str ((ix d1.elems i2.toNat).at 1)) :: (vk .str ((ix d1.elems i2.toNat).at 1)) :: (vi (nI ((ix d1.elems i2.toNat).at 1).s.size)) :: (vb (gtI (nI ((ix d1.elems i2.toNat).at 1).s.size) 200)) :: (vb (gtI (nI ((ix d1.elems i2.toNat).at 1).s.size) 200)) :: (us 3 [])))))) []
  | .e2 d1 i2 => k (.exit 0) ((vk (.slice 52) d1) :: (us 2 ((vi i2) :: (vi i2) :: (vk (.slice 52) d1) :: (vi (nI d1.elems.length)) :: (vb (ltI i2 (nI d1.elems.length))) :: (vb true) :: (vi i2) :: (vb (leI i2 30)) :: (vb (leI i2 30)) :: (us 21 [])))) []
  | .e3 d1 i2 => k (.exit 0) ((vk (.slice 52) d1) :: (us 2 ((vi i2) :: (vi i2) :: (vk (.slice 52) d1) :: (vi (nI d1.elems.length)) :: (vb (ltI i2 (nI d1.elems.length))) :: (vb false) :: v0 :: v0 :: (vb false) :: (us 21 [])))) []
def ps2 : List PV := ((.d (.slice 52) .x) :: (up 2 ((.d (.int .i64) (.int .i64)) :: (up 29 []))))
def qs2 : List PO := []
noncomputable def t (M : Nat) : List Ent := ⟨7, 11, 0, 2, sumS [0, 3] ps2 qs2 [] of2 (st2 M) ex2 M⟩ :: []
theorem t_ok (M : Nat) : AllOk (e M) (tblOf (t M)) := AllOk.addS (n0 := 0) (lv := lv2) AllOk.nil (by kernel_rfl) rfl (by intro ls s h; unfold of2 at h; (repeat' split at h) <;> simp at h; subst h; rfl) (by intro s; kernel_rfl) (by intro s; kernel_rfl) (by intro s nx k; kernel_rfl)
def s (M : Nat) (p0 : D) : Option D :=
  (goS (st2 M) M ⟨p0, 0⟩ fun x => match x with | .e0 d1 i2 => (some (db false)) | .e1 d1 i2 => (some (db false)) | .e2 d1 i2 => (some (db (leI (nI d1.elems.length) 30))) | .e3 d1 i2 => (some (db (leI (nI d1.elems.length) 30))))
theorem run (M : Nat) (p0 : D) : callS (e M) (tblOf (t M)) 12 (.fn 7) [.d (.slice 52) p0] [] (fun v H => finish ty [4] v H) = s M p0 := by kernel_rfl
def c : Con := { run := fun ds => match ds with | [p0] => s FUEL p0 | _ => none, plain := true }
theorem ok : ConOk (7, c) := mkC Tryz.f7 [(.slice 52)] [4] (by kernel_rfl) (by kernel_rfl) (by kernel_rfl) (by kernel_rfl) allNil allNil (t_ok FUEL) fun a => run FUEL a.1
end F7
end Go.AM.SZ
