/- Part 7 of the proof: the abstract machine, what the functions compute, and plain laws over that. -/
import Derived.Test.YtonknblidjpfeaaDoorAp6
import Derived.Shelf.Unicode.DecodeAny
import Derived.Shelf.Spec.SlicesInsert
import Derived.Shelf.Spec.SlicesInsertGrow
import Derived.Test.YtonknblidjpfeaaDoorProg
import Derived.KernelRfl
set_option linter.all false
set_option linter.unusedSimpArgs false
set_option linter.unusedVariables false
set_option linter.unusedSectionVars false
namespace Go.AM
open Go
def nI (n : Nat) : Int := n
def ltI (a b : Int) : Bool := decide (a < b)
def leI (a b : Int) : Bool := decide (a ≤ b)
def gtI (a b : Int) : Bool := decide (a > b)
def geI (a b : Int) : Bool := decide (a ≥ b)
def eqI (a b : Int) : Bool := a == b
def neI (a b : Int) : Bool := a != b
def inb (i : Int) (n : Nat) : Bool := decide (0 ≤ i) && decide (i < (n : Int))
def leN (a b : Nat) : Bool := decide (a ≤ b)
def eqN (a b : Nat) : Bool := decide (a = b)
def mx (n : Nat) : Bool := decide (n ≤ maxLen)
def ix (l : List D) (n : Nat) : D := l.getD n .nilFunc
def ap (a b : List D) : List D := a ++ b
def rp (n : Nat) (d : D) : List D := List.replicate n d
def ad (k : IntKind) (a b : Int) : Int := k.wrap (a + b)
def sb (k : IntKind) (a b : Int) : Int := k.wrap (a - b)
def ml (k : IntKind) (a b : Int) : Int := k.wrap (a * b)
def cv (k : IntKind) (a : Int) : Int := k.wrap a
def shlI (k : IntKind) (a : Int) (n : Nat) : Int := k.wrap (a * 2 ^ (min n k.bits))
def shrI (k : IntKind) (a : Int) (n : Nat) : Int := a.fdiv (2 ^ (min n k.bits))
def andI (k : IntKind) (a b : Int) : Int := k.wrap (BitVec.ofInt k.bits a &&& BitVec.ofInt k.bits b).toNat
def orI (k : IntKind) (a b : Int) : Int := k.wrap (BitVec.ofInt k.bits a ||| BitVec.ofInt k.bits b).toNat
def xorI (k : IntKind) (a b : Int) : Int := k.wrap (BitVec.ofInt k.bits a ^^^ BitVec.ofInt k.bits b).toNat
def andNotI (k : IntKind) (a b : Int) : Int := k.wrap (BitVec.ofInt k.bits a &&& ~~~(BitVec.ofInt k.bits b)).toNat
def notI (k : IntKind) (a : Int) : Int := k.wrap (BitVec.ofInt k.bits (if k.signed then -1 else k.max) ^^^ BitVec.ofInt k.bits a).toNat
def maxi (a b : Int) : Int := if b > a then b else a
def mini (a b : Int) : Int := if b < a then b else a
def quoI (k : IntKind) (a b : Int) : Int := k.wrap (a.tdiv b)
def remI (a b : Int) : Int := a.tmod b
def eqS (a b : ByteArray) : Bool := a.toList == b.toList
def ltS (a b : ByteArray) : Bool := Op.bytesLess a.toList b.toList
def cat (a b : ByteArray) : Option D := if a.size + b.size ≤ maxInt then some (.str (a ++ b)) else none
def bs (l : List UInt8) : ByteArray := ⟨l.toArray⟩
def bd (o : Option D) (f : D → Option D) : Option D := match o with | some r => f r | none => none
def bdB (x : D) (f : Bool → Option D) : Option D := match x with | .bool b => f b | _ => none
abbrev di (x : Int) : D := .int .i64 x
abbrev db (x : Bool) : D := .bool x
abbrev dS (x : ByteArray) : D := .str x
abbrev da (l : List D) : D := .agg l
abbrev dl (b : Bool) (l : List D) : D := .slice b l
end Go.AM
namespace Go.AM
open Go Go.RowKit
def K.flat (ty : Nat → K) : Nat → K → Bool
  | _, .bool => true
  | _, .int _ => true
  | _, .str => true
  | _, .func => true
  | n + 1, .struct fs => fs.all fun f => K.flat ty n (ty f)
  | n + 1, .array _ e => K.flat ty n (ty e)
  | _, _ => false
section
variable {ty : Nat → K}
mutual
theorem has_flat : ∀ (d : D) (n : Nat) (κ : K), D.has ty d κ → K.flat ty n κ = true → d.noMem = true
  | .bool _, _, _, _, _ => rfl
  | .int _ _, _, _, _, _ => rfl
  | .str _, _, _, _, _ => rfl
  | .agg ds, n, κ, h, hf => by
    simp only [D.has] at h
    simp only [D.noMem]
    obtain ⟨h1, h2⟩ := h
    cases κ <;> simp [K.isAgg] at h1
    · cases n with
      | zero => simp [K.flat] at hf
      | succ n =>
        simp only [K.flat, List.all_eq_true] at hf
        refine hass_flat ds n _ h2 fun κ hκ => ?_
        simp only [K.kids, List.mem_map] at hκ
        obtain ⟨f, hfm, rfl⟩ := hκ
        exact hf f hfm
    · cases n with
      | zero => simp [K.flat] at hf
      | succ n =>
        simp only [K.flat] at hf
        refine hass_flat ds n _ h2 fun κ hκ => ?_
        simp only [K.kids] at hκ
        rw [List.eq_of_mem_replicate hκ]
        exact hf
  | .slice nn ds, n, κ, h, hf => by
    simp only [D.has] at h
    obtain ⟨e, rfl, _⟩ := h
    cases n <;> simp [K.flat] at hf
  | .iface t x, n, κ, h, hf => by
    simp only [D.has] at h
    obtain ⟨⟨m, rfl⟩, _⟩ := h
    cases n <;> simp [K.flat] at hf
  | .nilIface, _, _, _, _ => rfl
  | .fn _, _, _, _, _ => rfl
  | .nilFunc, _, _, _, _ => rfl
  | .nilPtr, _, _, _, _ => rfl
  | .nilMap, _, _, _, _ => rfl
  | .tup _, _, _, h, _ => by simp [D.has] at h
theorem hass_flat : ∀ (ds : List D) (n : Nat) (κs : List K), D.hass ty ds κs → (∀ κ ∈ κs, K.flat ty n κ = true) → D.noMems ds = true
  | [], _, _, _, _ => rfl
  | d :: ds, n, κs, h, hf => by
    simp only [D.hass] at h
    obtain ⟨κ, κs', rfl, h1, h2⟩ := h
    simp only [D.noMems, Bool.and_eq_true]
    exact ⟨has_flat d n κ h1 (hf κ (by simp)), hass_flat ds n κs' h2 fun κ hκ => hf κ (by simp [hκ])⟩
end
theorem res_flat {M : Mem} {ts : List Nat} {r : D} {v : Value} {n : Nat} (h : ResRep ty M ts r v) (hf : ts.all (fun t => K.flat ty n (ty t)) = true) : r.noMem = true := by
  rw [List.all_eq_true] at hf
  unfold ResRep at h
  split at h
  · rename_i t
    exact has_flat r n _ (rep_has _ _ _ h) (hf t (by simp))
  · obtain ⟨ds, xs, rfl, _, hE⟩ := h
    simp only [D.noMem]
    refine hass_flat ds n _ (each_has _ _ _ hE) fun κ hκ => ?_
    simp only [List.mem_map] at hκ
    obtain ⟨t, ht, rfl⟩ := hκ
    exact hf t ht
variable {P : Program} {I : World → Prop} {gl : Nat}
theorem contract_flat (hgl : ∀ w, I w → gl ≤ w.heap.size) {f : Nat} {fn : Func} {run : List D → Option D} {n : Nat} {p : Bool}
    (hp : p = true → fn.resultTypes.toList.all (fun t => K.flat ty n (ty t)) = true)
    (hrun : ∀ ds r, D.hass ty ds (fn.params.toList.map ty) → run ds = some r → Comes P ty I gl f fn ds r finish) : Contract P ty I f fn { run := run, fresh := false, plain := p } := by
  have h0 : Contract P ty I f fn { run := run, fresh := false, plain := false } := contract_of hgl rfl hrun (by simp)
  intro X w ds xs r hIw hX hE hr
  refine (h0 X w ds xs r hIw hX hE hr).mono ?_
  rintro e w' ⟨v, rfl, hb, hres⟩
  refine ⟨v, rfl, hb, ?_⟩
  simp only [Bool.false_eq_true, if_false] at hres ⊢
  cases p with
  | false => simpa using hres
  | true =>
    simp only [if_true]
    exact fun M => noMem_res (res_flat hres (hp rfl)) hres
theorem has_int {d : D} {k : IntKind} (h : D.has ty d (.int k)) : ∃ n, d = .int k n := by
  cases d <;> simp [D.has, K.isAgg] at h
  subst h; exact ⟨_, rfl⟩
theorem has_bool {d : D} (h : D.has ty d .bool) : ∃ n, d = .bool n := by cases d <;> simp [D.has, K.isAgg] at h; exact ⟨_, rfl⟩
theorem has_str {d : D} (h : D.has ty d .str) : ∃ n, d = .str n := by cases d <;> simp [D.has, K.isAgg] at h; exact ⟨_, rfl⟩
theorem has_slice {d : D} {e : Nat} (h : D.has ty d (.slice e)) : ∃ nn ds, d = .slice nn ds ∧ (∀ x ∈ ds, D.has ty x (ty e)) ∧ (nn = false → ds = []) := by
  cases d <;> simp only [D.has, K.isAgg, reduceCtorEq, false_and, exists_false] at h
  case slice nn ds =>
  obtain ⟨e', he, h1, h2⟩ := h
  obtain rfl : e = e' := by simpa using he
  refine ⟨_, _, rfl, ?_, h2⟩
  clear h2
  induction ds with
  | nil => simp
  | cons d ds ih =>
    simp only [List.length_cons, List.replicate_succ, D.hass] at h1
    obtain ⟨κ, κs', hc, h3, h4⟩ := h1
    simp only [List.cons.injEq] at hc
    obtain ⟨rfl, rfl⟩ := hc
    intro x hx
    rcases List.mem_cons.1 hx with rfl | hx
    · exact h3
    · exact ih h4 x hx
theorem has_struct {d : D} {fs : List Nat} (h : D.has ty d (.struct fs)) : ∃ ds, d = .agg ds ∧ D.hass ty ds (fs.map ty) := by
  cases d <;> simp [D.has] at h
  exact ⟨_, rfl, h.2⟩
theorem has_array {d : D} {n e : Nat} (h : D.has ty d (.array n e)) : ∃ ds, d = .agg ds ∧ D.hass ty ds (List.replicate n (ty e)) := by
  cases d <;> simp [D.has] at h
  exact ⟨_, rfl, h.2⟩
theorem hass_nil {ds : List D} (h : D.hass ty ds []) : ds = [] := by cases ds <;> simp [D.hass] at h; rfl
theorem hass_cons {ds : List D} {κ : K} {κs : List K} (h : D.hass ty ds (κ :: κs)) : ∃ d ds', ds = d :: ds' ∧ D.has ty d κ ∧ D.hass ty ds' κs := by
  cases ds with
  | nil => simp [D.hass] at h
  | cons d ds =>
    simp only [D.hass] at h
    obtain ⟨κ', κs', hc, h1, h2⟩ := h
    simp only [List.cons.injEq] at hc
    obtain ⟨rfl, rfl⟩ := hc
    exact ⟨d, ds, rfl, h1, h2⟩
end
end Go.AM
namespace Go.AM
open Go Go.RowKit Go.Proofs
section
variable {P : Program} {ρ : Go.Shelf.Ren} {ty : Nat → K} {cd : Cd} {I : World → Prop} {gl : Nat}
def decodeC : Con := { run := fun ds => match ds with | [d] => some (.tup [.int .i32 (Lib.decodeGo d.s).1, .int .i64 (Lib.decodeGo d.s).2]) | _ => none, plain := true }
theorem decodeC_ok (L : Lays.n197 P ρ) (hI : ∀ w, I w → Lib.Utf8Tabs (ρ.g 3) (ρ.g 4) w) {fn : Func} {t5 t3 : Nat} (hp : fn.params.toList.map ty = [.str]) (hr : fn.resultTypes.toList = [t5, t3]) (h5 : ty t5 = .int .i32) (h3 : ty t3 = .int .i64) :
    Contract P ty I (ρ.f 197) fn decodeC := by
  intro X w ds xs r hIw hX hE hrun
  rw [hp] at hE
  match ds, hE with
  | [d], hE =>
    simp only [Each] at hE
    obtain ⟨κ, κs', x, rest, he, rfl, hx, hn, rfl⟩ := hE
    simp only [List.cons.injEq] at he
    obtain ⟨rfl, _⟩ := he
    have hs := rep_str hx
    subst hs
    simp only [decodeC, Option.some.injEq] at hrun
    subst hrun
    refine (Any.utf8_DecodeRuneInString L d.s w (hI w hIw)).mono ?_
    rintro e w' ⟨rfl, hb⟩
    refine ⟨_, rfl, hb, ?_⟩
    have hpl : decodeC.plain = true := rfl
    rw [if_pos hpl]
    intro M
    rw [hr]
    refine ⟨_, _, rfl, rfl, ?_⟩
    simp only [List.map_cons, List.map_nil, h5, h3, Each, Rep]
    exact ⟨_, _, _, _, rfl, rfl, ⟨rfl, rfl⟩, _, _, _, _, rfl, rfl, ⟨rfl, rfl⟩, rfl, rfl⟩
  | [], hE => simp [Each] at hE
  | d1 :: d2 :: ds, hE =>
    simp only [Each] at hE
    obtain ⟨κ, κs', x, rest, he, rfl, hx, κ2, κs2, x2, r2, h2, _⟩ := hE
    rw [h2] at he
    simp at he
def insertX (e : Nat) : Ext := fun args H => match args with
  | [s, .d (.int .i64) x, .sref b2 off2 len2] => match H[b2]? with
    | some (.row e2 _ _ ds2) =>
        match s with
        | .sref b off len => match H[b]? with
          | some (.row e1 true _ ds) =>
            some ((decide (e2 = e) && decide (0 < len2)) && (decide (e1 = e) && decide (b ≠ b2) && decide (0 ≤ x.i) && decide (x.i ≤ (len : Int)) && decide (len + len2 ≤ maxLen)),
              .sref H.length 0 (len + len2), H.set b .dead ++ [.row e true true (((ds.drop off).take len).take x.i.toNat ++ (ds2.drop off2).take len2 ++ ((ds.drop off).take len).drop x.i.toNat)])
          | _ => none
        | .d (.slice e1) (.slice false []) => some ((decide (e2 = e) && decide (0 < len2)) && (decide (e1 = e) && decide (x.i = 0) && decide (len2 ≤ maxLen)), .sref H.length 0 len2, H ++ [.row e true true ((ds2.drop off2).take len2)])
        | _ => none
    | _ => none
  | _ => none
theorem setCells_put {b : Nat} {et : Nat} {fz : Nat × Nat} : ∀ (vs : List Value) (o : Nat) (pre mid post : List Value) (w : World), w.heap[b]? = some (.cells (pre ++ mid ++ post).toArray et fz) → mid.length = vs.length → pre.length = o →
    w.setCells b o vs = putBlk w b (.cells (pre ++ vs ++ post).toArray et fz)
  | [], o, pre, mid, post, w, h, hm, hp => by
    have : mid = [] := by simpa using hm
    subst this
    rw [World.setCells, putBlk_same h]
  | v :: vs, o, pre, mid, post, w, h, hm, hp => by
    cases mid with
    | nil => simp at hm
    | cons m mid =>
      have h1 := setCell_put (o := o) (v := v) h
      have h2 : (pre ++ m :: mid ++ post).toArray.setIfInBounds o v = ((pre ++ [v]) ++ mid ++ post).toArray := by
        apply Array.toList_inj.1
        simp [List.set_append, ← hp]
      rw [h2] at h1
      rw [World.setCells, h1]
      rw [setCells_put vs (o + 1) (pre ++ [v]) mid post _ (by rw [putBlk_heap, if_pos ⟨rfl, lt_of_block h⟩]) (by simpa using hm) (by simp [hp])]
      simp [putBlk]
theorem below_da (w : World) (o : Obj) : Below w.heap.size w (w.drew.alloc o) :=
  ⟨rfl, rfl, rfl, by show w.heap.size ≤ (w.heap.push o).size; simp, fun k hk => by show (w.heap.push o)[k]? = _; rw [Array.getElem?_push, if_neg (by omega)]⟩
theorem heap_da (w : World) (o : Obj) : (w.drew.alloc o).heap[w.heap.size]? = some o := by show (w.heap.push o)[w.heap.size]? = _; simp
theorem oneCell_of_scal {v : Value} (h : AM.scal v = true) : v.oneCell' = true := by cases v <;> simp_all [AM.scal, Value.oneCell']
theorem insertX_ok (T : TyOk P ty) (L : Lays2.n22 P ρ) {e : Nat} (he : ty e = .str) : ExtOk P ty I gl (ρ.f 22) (insertX e) := by
  intro cd X B0 w0 μ H w args v H' xs _ _ h hargs hrun
  have hone : P.cellsOf e = 1 := by rw [T.szOk e (by rw [he]; simp), he]; rfl
  have hne : ty e ≠ .bad := by rw [he]; simp
  unfold insertX at hrun
  split at hrun
  · rename_i s x b2 off2 len2
    simp only [RVt] at hargs
    obtain ⟨sv, _, rfl, hs, iv, _, rfl, hi, vv, _, rfl, hv, rfl⟩ := hargs
    replace hi := hi.resolve_left (by simp)
    obtain ⟨_, hi⟩ := hi
    simp only [RV] at hi
    have hiv := rep_int (hi.1 ▸ hi.2)
    replace hv := hv.resolve_left (by simp)
    obtain ⟨_, hv⟩ := hv
    simp only [RV] at hv
    obtain ⟨l2, n2, e2, hμ2, hl2, _, hlen2, hv⟩ := hv
    split at hrun
    · rename_i e2x own2 nn2 ds2 hH2
      obtain ⟨rfl, rfl⟩ := row_loc h hH2 hμ2 hl2
      have hobj2 := h.obj b2 l2 _ hμ2 hH2
      have hc2 : e2 = e ∧ 0 < len2 := by
        split at hrun
        · split at hrun
          · simp only [Option.some.injEq, Prod.mk.injEq, Bool.and_eq_true, decide_eq_true_eq] at hrun
            exact hrun.1.1
          · simp at hrun
        · simp only [Option.some.injEq, Prod.mk.injEq, Bool.and_eq_true, decide_eq_true_eq] at hrun
          exact hrun.1.1
        · simp at hrun
      obtain ⟨rfl, hpos⟩ := hc2
      have hvirt2 : l2.virt = false := by
        rcases hv with ⟨_, h0, _⟩ | ⟨h0, _⟩ | ⟨h0, _⟩
        · omega
        · exact h0
        · exact h0
      obtain ⟨c2, hvv, hc21, hc22, hre2⟩ : ∃ c, vv = .slice (some ⟨l2.blk, l2.base + off2 * P.cellsOf e2, none⟩) len2 c ∧ len2 ≤ c ∧ off2 + c ≤ l2.cap ∧ ds2.length ≤ off2 + c := by
        rcases hv with ⟨h0, _⟩ | ⟨_, c, h1⟩ | ⟨_, h0, _⟩
        · rw [hvirt2] at h0; simp at h0
        · exact ⟨c, h1⟩
        · omega
      subst hvv
      simp only [ObjOk] at hobj2
      obtain ⟨_, _, _, hobj2⟩ := hobj2
      rw [if_neg (by simp [hvirt2])] at hobj2
      obtain ⟨_, hcap2, cs2, et2, fz2, pre2, mid2, post2, hb2, hcs2, hpre2, hrep2, hpost2, hfz2⟩ := hobj2
      obtain ⟨p1, vs, p2, e2a, l2a, l2b, hvs, _, _⟩ := Reps.drop_take T.szOk hne hrep2 hlen2
      rw [hone] at l2a l2b
      simp only [Nat.mul_one] at l2a l2b
      have hvsc : ∀ v ∈ vs, v.oneCell' = true := fun v hv => oneCell_of_scal (Reps.scal _ _ _ _ hvs v hv)
      have hvcell : ∀ (w' : World), w'.heap[l2.blk]? = w.heap[l2.blk]? → ∀ (j : Nat) (v : Value), vs[j]? = some v → w'.cell? ⟨l2.blk, l2.base + off2 * P.cellsOf e2 + j, none⟩ = some v := by
        intro w' hw' j v hj
        rw [cell_congr hw']
        have := block_cells hb2 (c1 := pre2 ++ p1) (y := vs) (c2 := p2 ++ post2) (by rw [hcs2, e2a]; simp) j v hj
        simpa [hpre2, l2a, hone, Nat.add_assoc] using this
      split at hrun
      · rename_i b off len
        replace hs := hs.resolve_left (by simp)
        obtain ⟨_, hs⟩ := hs
        simp only [RV] at hs
        obtain ⟨l, n, e1, hμ, hl, _, hlen, hs⟩ := hs
        split at hrun
        · rename_i e1x nn ds hH
          obtain ⟨rfl, rfl⟩ := row_loc h hH hμ hl
          simp only [Option.some.injEq, Prod.mk.injEq, Bool.and_eq_true, decide_eq_true_eq] at hrun
          obtain ⟨⟨_, ⟨⟨⟨rfl, hbb⟩, hx0⟩, hxl⟩, hmax⟩, hrun⟩ := hrun
          obtain ⟨rfl, rfl⟩ := hrun
          unfold maxLen at hmax
          obtain ⟨i, hxi⟩ : ∃ i : Nat, x.i = (i : Int) := ⟨x.i.toNat, by omega⟩
          rw [hxi] at hiv hxl
          rw [hxi]
          simp only [Int.toNat_natCast]
          subst hiv
          have hil : i ≤ len := by omega
          have hobj := h.obj b l _ hμ hH
          obtain ⟨hd1, hd2⟩ := h.less hμ hH (o' := .dead) (by simp [ownB]) (by simp [usesB]) (fun _ _ => trivial)
          have hdl : (H.set b .dead).length = H.length := by simp
          have hdlen : ((ds.drop off).take len).length = len := by simp; omega
          have hvlen : ((ds2.drop off2).take len2).length = len2 := by simp; omega
          have hnew : (((ds.drop off).take len).take i ++ (ds2.drop off2).take len2 ++ ((ds.drop off).take len).drop i).length = len + len2 := by
            simp only [List.length_append, List.length_take, List.length_drop]; omega
          have hgrow : ∀ (w' : World) (cap : Nat) (mid post : List Value) (et : Nat), Below w.heap.size w w' → w'.heap[w.heap.size]? = some (.cells (mid ++ post).toArray et (0, 0)) →
              Reps ty (M_ X μ H w) (((ds.drop off).take len).take i ++ (ds2.drop off2).take len2 ++ ((ds.drop off).take len).drop i) (List.replicate (len + len2) (ty e1)) mid → len + len2 ≤ cap ∧ cap ≤ maxInt → cap - (len + len2) ≤ post.length →
              ∃ y μ', Ending.returned (.slice (some ⟨w.heap.size, 0, none⟩) (len + len2) cap) = Ending.returned y ∧ HOk ty P.cellsOf cd X B0 w0 μ' (H.set b .dead ++ [.row e1 true true (((ds.drop off).take len).take i ++ (ds2.drop off2).take len2 ++ ((ds.drop off).take len).drop i)]) w' ∧
                RR ty P.cellsOf (M_ X μ' (H.set b .dead ++ [.row e1 true true (((ds.drop off).take len).take i ++ (ds2.drop off2).take len2 ++ ((ds.drop off).take len).drop i)]) w') μ' (.sref H.length 0 (len + len2)) y ∧
                Fut X B0 μ.length μ H w μ' (H.set b .dead ++ [.row e1 true true (((ds.drop off).take len).take i ++ (ds2.drop off2).take len2 ++ ((ds.drop off).take len).drop i)]) w' := by
            intro w' cap mid post et hb hblk hreps hcap hpost
            obtain ⟨g1, g2, g3⟩ := newRow_adopt hd1 hb (blk := w.heap.size) (e := e1) (cap := cap) (et := et) (fz := (0, 0)) (cs := (mid ++ post).toArray) (ds := ((ds.drop off).take len).take i ++ (ds2.drop off2).take len2 ++ ((ds.drop off).take len).drop i) (mid := mid) (post := post)
              (Nat.le_refl _) hblk hne rfl (fun M' hM => by rw [hnew]; exact Reps.mono _ (Mem.le_trans hd2.mem hM) _ _ _ hreps) (by rw [hnew]; exact hcap) (by rw [hnew, hone]; omega) (by simp)
            rw [hnew] at g1 g2 g3
            rw [hdl] at g3
            exact ⟨_, _, rfl, g1, g3, ⟨g2.loc, g2.len, Mem.le_trans hd2.mem g2.mem, g2.below, g2.dfr⟩⟩
          have hempty : ∀ (base : Option Addr), len = 0 → Calls P (ρ.f 22) #[.slice base 0 0, .int .i64 (0 : Nat), .slice (some ⟨l2.blk, l2.base + off2 * P.cellsOf e1, none⟩) len2 c2] w fun e w' => ∃ y μ', e = .returned y ∧ HOk ty P.cellsOf cd X B0 w0 μ' (H.set b .dead ++ [.row e1 true true (((ds.drop off).take len).take i ++ (ds2.drop off2).take len2 ++ ((ds.drop off).take len).drop i)]) w' ∧
                RR ty P.cellsOf (M_ X μ' (H.set b .dead ++ [.row e1 true true (((ds.drop off).take len).take i ++ (ds2.drop off2).take len2 ++ ((ds.drop off).take len).drop i)]) w') μ' (.sref H.length 0 (len + len2)) y ∧
                Fut X B0 μ.length μ H w μ' (H.set b .dead ++ [.row e1 true true (((ds.drop off).take len).take i ++ (ds2.drop off2).take len2 ++ ((ds.drop off).take len).drop i)]) w' := by
            intro base hl0
            subst hl0
            obtain rfl : i = 0 := by omega
            refine (Any2.slices_Insert_string_end_grow L base 0 0 l2.blk (l2.base + off2 * P.cellsOf e1) len2 c2 [] vs w hpos (Nat.le_refl _) (by omega) (by omega) rfl l2b (fun _ => rfl) (fun _ _ j v hj => by simp at hj) (hvcell w rfl) hvsc).mono ?_
            rintro e w' ⟨rfl, rfl⟩
            have hcap := cap_ge (0 + len2) 0 (ρ.t 9) (w.tape w.drawn (.appendCap (0 + len2) 0 (ρ.t 9)))
            have hcapm := cap_le (0 + len2) 0 (ρ.t 9) (w.tape w.drawn (.appendCap (0 + len2) 0 (ρ.t 9))) (by unfold maxLen; omega)
            refine hgrow _ _ vs (Builtin.zeroCells (Value.string ⟨#[]⟩).cells (grownCap w (0 + len2) 0 (ρ.t 9) - (0 + len2))).toList (ρ.t 9) (below_da _ _) ?_ ?_ ⟨hcap, hcapm⟩ (by simp [Builtin.zeroCells, Value.cells])
            · rw [heap_da]; simp
            · simpa using hvs
          rcases hs with ⟨hvirt, hl0, a, rfl, ha⟩ | ⟨hvirt, c, rfl, hc, hoc, hreach⟩ | ⟨hvirt, hl0, hreach, ad, rfl⟩
          · obtain rfl : i = 0 := by omega
            exact hempty a hl0
          · have hob := hobj
            simp only [ObjOk] at hob
            obtain ⟨_, hlnn, _, hob⟩ := hob
            rw [if_neg (by simp [hvirt])] at hob
            obtain ⟨hnn, hcap, cs, et, fz, pre, mid, post, hb1, hcs, hpre, hrep, hpost, hfz⟩ := hob
            obtain ⟨q1, os, q2, e1a, l1a, l1b, hos, _, hq2⟩ := Reps.drop_take T.szOk hne hrep hlen
            have hq2l : q2.length = ds.length - (off + len) := by
              have := (Reps.size T.szOk _ _ _ hq2).2 (List.replicate (ds.length - (off + len)) e1) (by simp)
              simpa [hone] using this
            have hpl : l.cap - ds.length ≤ post.length := by rw [hone] at hpost; omega
            rw [hone] at l1a l1b
            simp only [Nat.mul_one] at l1a l1b
            have hosc : ∀ v ∈ os, v.oneCell' = true := fun v hv => oneCell_of_scal (Reps.scal _ _ _ _ hos v hv)
            have hblk : w.heap[l.blk]? = some (.cells ((pre ++ q1) ++ os ++ (q2 ++ post)).toArray et fz) := by
              rw [hb1]; congr 2; apply Array.toList_inj.1; rw [hcs, e1a]; simp
            have hcell : ∀ (w' : World), w'.heap[l.blk]? = w.heap[l.blk]? → ∀ (j : Nat) (v : Value), os[j]? = some v → w'.cell? ⟨l.blk, l.base + off * P.cellsOf e1 + j, none⟩ = some v := by
              intro w' hw' j v hj
              rw [cell_congr hw']
              have := block_cells hblk (c1 := pre ++ q1) (y := os) (c2 := q2 ++ post) (by simp) j v hj
              simpa [hpre, l1a, hone, Nat.add_assoc] using this
            have hp0 : (pre ++ q1).length = l.base + off * P.cellsOf e1 := by simp [hpre, l1a, hone]
            have hroomlen : c - len ≤ (q2 ++ post).length := by rw [List.length_append, hq2l]; omega
            have hcsz : cs.size = ((pre ++ q1) ++ os ++ (q2 ++ post)).length := by
              have h1 : cs.size = cs.toList.length := by simp
              rw [h1, hcs, e1a]; simp
            have hcf : ∀ j, j < c → (w.cell? ⟨l.blk, l.base + off * P.cellsOf e1 + j, none⟩).isSome = true ∧ w.frozen? ⟨l.blk, l.base + off * P.cellsOf e1 + j, none⟩ = false := by
              intro j hj
              have hlt : l.base + off * P.cellsOf e1 + j < ((pre ++ q1) ++ os ++ (q2 ++ post)).length := by
                rw [List.length_append, List.length_append, hp0, l1b]; omega
              constructor
              · rw [cell_of_block hblk]; simp only [List.getElem?_toArray]; rw [List.getElem?_eq_getElem hlt]; rfl
              · rw [frozen_of_block hblk]
                have := hfz (l.base + off * P.cellsOf e1 + j) (by rw [hcsz]; exact Nat.lt_add_right _ hlt)
                simp at this ⊢; omega
            have hnb : l2.blk ≠ l.blk := by
              intro hEq
              have h1 : Own μ H b l.blk := ⟨l, _, hμ, hH, by simp [ownB, hvirt]⟩
              have h2 : Uses μ H b2 l.blk := ⟨l2, _, hμ2, hH2, by simp [usesB, hvirt2, hEq]⟩
              exact hbb (h.inj _ _ _ h1 h2)
            have hreps : Reps ty (M_ X μ H w) (((ds.drop off).take len).take i ++ (ds2.drop off2).take len2 ++ ((ds.drop off).take len).drop i) (List.replicate (len + len2) (ty e1)) (os.take i ++ vs ++ os.drop i) := by
              have hos' : Reps ty (M_ X μ H w) ((ds.drop off).take len) (List.replicate ((ds.drop off).take len).length (ty e1)) os := by rw [hdlen]; exact hos
              obtain ⟨r1, r2, r3, er, lr1, lr2, hr2, hr1, hr3⟩ := Reps.drop_take T.szOk hne hos' (i := i) (n := 0) (by rw [hdlen]; omega)
              rw [hone] at lr1 lr2
              have hr20 : r2 = [] := List.eq_nil_of_length_eq_zero (by simpa using lr2)
              subst hr20
              have ht : os.take i = r1 := by rw [er, List.append_nil]; exact List.take_left' (by simpa using lr1)
              have hd : os.drop i = r3 := by rw [er, List.append_nil]; exact List.drop_left' (by simpa using lr1)
              rw [ht, hd]
              rw [hdlen] at hr3
              have ek : List.replicate (len + len2) (ty e1) = List.replicate i (ty e1) ++ List.replicate len2 (ty e1) ++ List.replicate (len - (i + 0)) (ty e1) := by
                rw [List.replicate_append_replicate, List.replicate_append_replicate]; congr 1; omega
              rw [ek]
              exact (hr1.append hvs).append (by simpa using hr3)
            have hin : ∀ (w' : World) (post' : List Value), len + len2 ≤ c → (∃ k, w' = putBlk { w with drawn := k } l.blk (.cells ((pre ++ q1) ++ (os.take i ++ vs ++ os.drop i) ++ post').toArray et fz)) → c - (len + len2) ≤ post'.length → ((pre ++ q1) ++ (os.take i ++ vs ++ os.drop i) ++ post').length = cs.size →
                ∃ y μ', Ending.returned (.slice (some ⟨l.blk, l.base + off * P.cellsOf e1, none⟩) (len + len2) c) = Ending.returned y ∧ HOk ty P.cellsOf cd X B0 w0 μ' (H.set b .dead ++ [.row e1 true true (((ds.drop off).take len).take i ++ (ds2.drop off2).take len2 ++ ((ds.drop off).take len).drop i)]) w' ∧
                RR ty P.cellsOf (M_ X μ' (H.set b .dead ++ [.row e1 true true (((ds.drop off).take len).take i ++ (ds2.drop off2).take len2 ++ ((ds.drop off).take len).drop i)]) w') μ' (.sref H.length 0 (len + len2)) y ∧
                Fut X B0 μ.length μ H w μ' (H.set b .dead ++ [.row e1 true true (((ds.drop off).take len).take i ++ (ds2.drop off2).take len2 ++ ((ds.drop off).take len).drop i)]) w' := by
              intro w' post' hroom hw' hpost' hsz
              obtain ⟨k, rfl⟩ := hw'
              have hbel : Below w.heap.size w { w with drawn := k } := ⟨rfl, rfl, rfl, Nat.le_refl _, fun _ _ => rfl⟩
              obtain ⟨f1, f2⟩ := h.grow hbel
              obtain ⟨g1, g2⟩ := HOk.killPut f1 (l' := ⟨l.blk, l.base + off * P.cellsOf e1, c, .array (len + len2) e1, false, true⟩) (o' := .row e1 true true (((ds.drop off).take len).take i ++ (ds2.drop off2).take len2 ++ ((ds.drop off).take len).drop i))
                (obj := .cells ((pre ++ q1) ++ (os.take i ++ vs ++ os.drop i) ++ post').toArray et fz) hμ hH (by simp [ownB, hvirt]) (by simp [ownB]) (fun M' hM => by
                  simp only [ObjOk]
                  refine ⟨by rw [hnew], trivial, hne, ?_⟩
                  rw [if_neg (by simp)]
                  refine ⟨trivial, by rw [hnew]; omega, ((pre ++ q1) ++ (os.take i ++ vs ++ os.drop i) ++ post').toArray, et, fz, pre ++ q1, os.take i ++ vs ++ os.drop i, post', ?_, by simp, hp0, ?_, ?_, ?_⟩
                  · rw [putBlk_heap, if_pos ⟨rfl, lt_of_block hb1⟩]
                  · rw [hnew]; exact Reps.mono _ (Mem.le_trans f2.mem hM) _ _ _ hreps
                  · rw [hnew, hone]; simpa using hpost'
                  · intro o ho
                    exact hfz o (by rw [← hsz]; simpa using ho))
              refine ⟨_, _, rfl, g1, .inr ⟨.slice e1, ?_⟩, Fut.trans (Nat.le_refl _) f2 g2⟩
              simp only [RV]
              refine ⟨⟨l.blk, l.base + off * P.cellsOf e1, c, .array (len + len2) e1, false, true⟩, len + len2, e1, ?_, rfl, rfl, by omega, .inr (.inl ⟨rfl, c, by simp, hroom, by simp, by simpa using hroom⟩)⟩
              rw [← h.len]; simp
            by_cases hend : i = len
            · subst hend
              have htk : os.take i = os := List.take_of_length_le (by omega)
              have hdk : os.drop i = [] := List.drop_of_length_le (by omega)
              by_cases hroom : i + len2 ≤ c
              · have hseg : ((q2 ++ post).take len2).length = vs.length := by rw [List.length_take, l2b]; omega
                have hput := fun (w1 : World) (hw1 : w1.heap[l.blk]? = w.heap[l.blk]?) => setCells_put (b := l.blk) vs (l.base + off * P.cellsOf e1 + i) ((pre ++ q1) ++ os) ((q2 ++ post).take len2) ((q2 ++ post).drop len2) w1 (by rw [hw1, hblk, List.append_assoc ((pre ++ q1) ++ os), List.take_append_drop]) hseg (by rw [List.length_append, hp0, l1b])
                refine (Any2.slices_Insert_string_end_room L l.blk (l.base + off * P.cellsOf e1) i c l2.blk (l2.base + off2 * P.cellsOf e1) len2 c2 vs w hpos hroom (by
                  unfold maxInt at hcap; omega) l2b (fun j hj => by rw [Nat.add_assoc]; exact (hcf (i + j) (by omega)).1) (fun j hj => by rw [Nat.add_assoc]; exact (hcf (i + j) (by omega)).2) (hvcell w rfl) hvsc).mono ?_
                rintro e w' ⟨rfl, rfl⟩
                refine hin _ ((q2 ++ post).drop len2) hroom ⟨w.drawn, ?_⟩ (by rw [List.length_drop]; omega) ?_
                · rw [hput w rfl]
                  rw [htk, hdk]
                  simp
                · rw [hcsz, htk, hdk]
                  simp only [List.length_append, List.length_drop, List.length_nil, l2b] at hroomlen ⊢; omega
              · refine (Any2.slices_Insert_string_end_grow L (some ⟨l.blk, l.base + off * P.cellsOf e1, none⟩) i c l2.blk (l2.base + off2 * P.cellsOf e1) len2 c2 os vs w hpos hc (by omega) (by omega) l1b l2b (fun h0 => by simp at h0)
                  (fun ad had j v hj => by simp only [Option.some.injEq] at had; subst had; rw [addr_add rfl]; exact hcell w rfl j v hj) (hvcell w rfl) hvsc).mono ?_
                rintro e w' ⟨rfl, rfl⟩
                have hcap := cap_ge (i + len2) c (ρ.t 9) (w.tape w.drawn (.appendCap (i + len2) c (ρ.t 9)))
                have hcapm := cap_le (i + len2) c (ρ.t 9) (w.tape w.drawn (.appendCap (i + len2) c (ρ.t 9))) (by unfold maxLen; omega)
                refine hgrow _ _ (os.take i ++ vs ++ os.drop i) (Builtin.zeroCells (Value.string ⟨#[]⟩).cells (grownCap w (i + len2) c (ρ.t 9) - (i + len2))).toList (ρ.t 9) (below_da _ _) ?_ hreps ⟨hcap, hcapm⟩ (by simp [Builtin.zeroCells, Value.cells])
                rw [heap_da, htk, hdk]
                simp
            · have hilt : i < len := by omega
              by_cases hroom : len + len2 ≤ c
              · refine (Any2.slices_Insert_string_shift L l.blk (l.base + off * P.cellsOf e1) len c i l2.blk (l2.base + off2 * P.cellsOf e1) len2 c2 os vs w hilt hpos hroom (by unfold maxInt at hcap; omega) hnb l1b l2b
                  (hcell w rfl) (fun j hj => (hcf j (by omega)).1) (fun j hj => (hcf j (by omega)).2) (hvcell w rfl) hosc hvsc et2 et cs2.size cs.size (by simp [World.shape?, hb2]) (by simp [World.shape?, hb1]) (by rw [hcsz]; simp only [List.length_append, l1b]; omega) ?_ ?_).mono ?_
                · rw [frozen_of_block hb2]
                  have := hfz2 (l2.base + off2 * P.cellsOf e1) (by
                    have h1 : cs2.size = cs2.toList.length := by simp
                    rw [h1, hcs2, e2a, hone]; simp only [List.length_append, hpre2, l2a, l2b]; omega)
                  simp at this ⊢; omega
                · rw [frozen_of_block hb2]
                  have := hfz2 cs2.size (by rw [he]; simp [slk])
                  simp at this ⊢; omega
                rintro e w' ⟨rfl, rfl⟩
                have hT : (os.drop i ++ (q2 ++ post)).length = (len - i) + (q2 ++ post).length := by rw [List.length_append, List.length_drop, l1b]
                have hput1 := setCells_put (b := l.blk) (os.drop i) (l.base + off * P.cellsOf e1 + (i + len2)) ((pre ++ q1) ++ os.take i ++ (os.drop i ++ (q2 ++ post)).take len2) (((os.drop i ++ (q2 ++ post)).drop len2).take (len - i)) ((os.drop i ++ (q2 ++ post)).drop (len2 + (len - i))) w.drew
                  (et := et) (fz := fz) (by
                    show w.heap[l.blk]? = _
                    rw [hblk]; congr 2; apply Array.toList_inj.1
                    show (pre ++ q1) ++ os ++ (q2 ++ post) = (pre ++ q1) ++ os.take i ++ (os.drop i ++ (q2 ++ post)).take len2 ++ ((os.drop i ++ (q2 ++ post)).drop len2).take (len - i) ++ (os.drop i ++ (q2 ++ post)).drop (len2 + (len - i))
                    rw [← List.drop_drop, List.append_assoc _ (((os.drop i ++ (q2 ++ post)).drop len2).take (len - i)), List.take_append_drop, List.append_assoc _ ((os.drop i ++ (q2 ++ post)).take len2), List.take_append_drop, List.append_assoc (pre ++ q1), List.append_assoc (pre ++ q1), ← List.append_assoc (os.take i), List.take_append_drop])
                  (by rw [List.length_take, List.length_drop, List.length_drop, hT, l1b]; omega) (by rw [List.length_append, List.length_append, hp0, List.length_take, List.length_take, hT, l1b]; omega)
                rw [hput1]
                have hput2 := setCells_put (b := l.blk) vs (l.base + off * P.cellsOf e1 + i) ((pre ++ q1) ++ os.take i) ((os.drop i ++ (q2 ++ post)).take len2) (os.drop i ++ (os.drop i ++ (q2 ++ post)).drop (len2 + (len - i))) (putBlk w.drew l.blk (.cells ((pre ++ q1) ++ os.take i ++ (os.drop i ++ (q2 ++ post)).take len2 ++ os.drop i ++ (os.drop i ++ (q2 ++ post)).drop (len2 + (len - i))).toArray et fz))
                  (et := et) (fz := fz) (by rw [putBlk_heap, if_pos ⟨rfl, lt_of_block (w := w.drew) hb1⟩]; simp) (by rw [List.length_take, hT, l2b]; omega) (by rw [List.length_append, hp0, List.length_take, l1b]; omega)
                rw [hput2]
                refine hin _ ((os.drop i ++ (q2 ++ post)).drop (len2 + (len - i))) hroom ⟨w.drawn + 1, ?_⟩ (by rw [List.length_drop, hT]; omega) ?_
                · show putBlk (putBlk w.drew _ _) _ _ = putBlk w.drew _ _
                  simp [putBlk]
                · rw [hcsz]; simp only [List.length_append, List.length_drop, List.length_take, l1b, l2b] at hT hroomlen ⊢; omega
              · refine (Any2.slices_Insert_string_grow L l.blk (l.base + off * P.cellsOf e1) len c i l2.blk (l2.base + off2 * P.cellsOf e1) len2 c2 os vs w hilt hpos hc (by omega) (by omega) l1b l2b (hcell w rfl) (hvcell w rfl) hosc hvsc).mono ?_
                rintro e w' ⟨rfl, rfl⟩
                have hcap := cap_ge (len + len2) c (ρ.t 9) (w.tape w.drawn (.appendCap (len + len2) c (ρ.t 9)))
                have hcapm := cap_le (len + len2) c (ρ.t 9) (w.tape w.drawn (.appendCap (len + len2) c (ρ.t 9))) (by unfold maxLen; omega)
                have hdr : ∀ (w1 : World) (cs : Array Value) (t : Nat), (w1.alloc (.cells cs t)).drew.heap[w1.heap.size]? = some (.cells cs t (0, 0)) := by
                  intro w1 cs t; show (w1.heap.push _)[w1.heap.size]? = _; simp
                have hz : ∀ n, (Builtin.zeroCells (Value.string ⟨#[]⟩).cells n).toList.length = n := by intro n; simp [Builtin.zeroCells, Value.cells]
                generalize hZ1 : Builtin.zeroCells (Value.string ⟨#[]⟩).cells (len + len2 - i) = Z1
                generalize hZ2 : Builtin.zeroCells (Value.string ⟨#[]⟩).cells (grownCap w (len + len2) c (ρ.t 9) - (len + len2)) = Z2
                have hz1 : Z1.toList.length = len + len2 - i := by rw [← hZ1]; exact hz _
                have hz2 : Z2.toList.length = grownCap w (len + len2) c (ρ.t 9) - (len + len2) := by rw [← hZ2]; exact hz _
                have hput1 := setCells_put (b := w.heap.size) vs i (os.take i) (Z1.toList.take len2) (Z1.toList.drop len2 ++ Z2.toList) (w.alloc (.cells ((os.take i).toArray ++ Z1 ++ Z2) (ρ.t 9))).drew
                  (et := ρ.t 9) (fz := (0, 0)) (by rw [hdr]; congr 2; apply Array.toList_inj.1; simp only [Array.toList_append, List.append_assoc]; rw [← List.append_assoc (Z1.toList.take len2), List.take_append_drop])
                  (by rw [List.length_take, hz1, l2b]; omega) (by rw [List.length_take, l1b]; omega)
                rw [hput1]
                have hput2 := setCells_put (b := w.heap.size) (os.drop i) (i + len2) (os.take i ++ vs) (Z1.toList.drop len2) Z2.toList (putBlk (w.alloc (.cells ((os.take i).toArray ++ Z1 ++ Z2) (ρ.t 9))).drew w.heap.size (.cells (os.take i ++ vs ++ (Z1.toList.drop len2 ++ Z2.toList)).toArray (ρ.t 9) (0, 0))).drew
                  (et := ρ.t 9) (fz := (0, 0)) (by show (putBlk _ _ _).heap[_]? = _; rw [putBlk_heap, if_pos ⟨rfl, lt_of_block (hdr _ _ _)⟩]; simp)
                  (by rw [List.length_drop, List.length_drop, hz1, l1b]; omega) (by rw [List.length_append, List.length_take, l1b, l2b]; omega)
                rw [hput2]
                refine hgrow _ _ (os.take i ++ vs ++ os.drop i) Z2.toList (ρ.t 9) ?_ ?_ hreps ⟨hcap, hcapm⟩ (by rw [hz2]; exact Nat.le_refl _)
                · refine ⟨rfl, rfl, rfl, ?_, fun k hk => ?_⟩
                  · show w.heap.size ≤ (((w.heap.push _).setIfInBounds _ _).setIfInBounds _ _).size
                    simp
                  · show (((w.heap.push _).setIfInBounds _ _).setIfInBounds _ _)[k]? = _
                    simp only [Array.getElem?_setIfInBounds, Array.getElem?_push]
                    rw [if_neg (by omega), if_neg (by omega), if_neg (by omega)]
                · rw [putBlk_heap, if_pos ⟨rfl, lt_of_block (w := (putBlk _ _ _).drew) (by show (putBlk _ _ _).heap[_]? = _; rw [putBlk_heap, if_pos ⟨rfl, lt_of_block (hdr _ _ _)⟩])⟩]
          · obtain rfl : i = 0 := by omega
            exact hempty (some ad) hl0
        · simp at hrun
      · rename_i e1
        replace hs := hs.resolve_left (by simp)
        obtain ⟨_, hs⟩ := hs
        simp only [RV] at hs
        obtain ⟨rfl, hs⟩ := hs
        simp only [Rep] at hs
        obtain ⟨_, ad, cap0, _, rfl, _, hnn, hnil, _⟩ := hs
        have had : ad = none := by cases ad with | none => rfl | some _ => simp at hnn
        subst had
        obtain rfl := hnil rfl
        simp only [Option.some.injEq, Prod.mk.injEq, Bool.and_eq_true, decide_eq_true_eq] at hrun
        obtain ⟨⟨_, ⟨rfl, hx0⟩, hmax⟩, hrun⟩ := hrun
        obtain ⟨rfl, rfl⟩ := hrun
        unfold maxLen at hmax
        rw [hx0] at hiv
        subst hiv
        refine (Any2.slices_Insert_string_end_grow L none 0 0 l2.blk (l2.base + off2 * P.cellsOf e1) len2 c2 [] vs w hpos (Nat.le_refl _) (by omega) (by omega) rfl l2b (fun _ => rfl) (fun _ _ j v hj => by simp at hj) (hvcell w rfl) hvsc).mono ?_
        rintro e w' ⟨rfl, rfl⟩
        have hcap := cap_ge (0 + len2) 0 (ρ.t 9) (w.tape w.drawn (.appendCap (0 + len2) 0 (ρ.t 9)))
        have hcapm := cap_le (0 + len2) 0 (ρ.t 9) (w.tape w.drawn (.appendCap (0 + len2) 0 (ρ.t 9))) (by unfold maxLen; omega)
        have hvl : ((ds2.drop off2).take len2).length = len2 := by simp; omega
        obtain ⟨g1, g2, g3⟩ := newRow_adopt h (w' := w.drew.alloc (.cells (([] ++ vs).toArray ++ Builtin.zeroCells (Value.string ⟨#[]⟩).cells (grownCap w (0 + len2) 0 (ρ.t 9) - (0 + len2))) (ρ.t 9))) (below_da _ _) (blk := w.heap.size) (e := e1) (cap := grownCap w (0 + len2) 0 (ρ.t 9)) (et := ρ.t 9) (fz := (0, 0))
          (cs := ([] ++ vs).toArray ++ Builtin.zeroCells (Value.string ⟨#[]⟩).cells (grownCap w (0 + len2) 0 (ρ.t 9) - (0 + len2))) (ds := (ds2.drop off2).take len2) (mid := vs) (post := (Builtin.zeroCells (Value.string ⟨#[]⟩).cells (grownCap w (0 + len2) 0 (ρ.t 9) - (0 + len2))).toList)
          (Nat.le_refl _) (heap_da _ _) hne (by simp) (fun M' hM => by rw [hvl]; exact Reps.mono _ hM _ _ _ hvs) (by rw [hvl]; rw [Nat.zero_add] at hcap hcapm ⊢; exact ⟨hcap, hcapm⟩) (by rw [hvl, hone]; simp [Builtin.zeroCells, Value.cells]) (by simp)
        rw [hvl] at g1 g2 g3
        rw [Nat.zero_add] at g1 g2 g3 ⊢
        exact ⟨_, _, rfl, g1, g3, g2⟩
      · simp at hrun
    · simp at hrun
  · simp at hrun
end
end Go.AM
namespace Go.AM
open Go Go.RowKit
def add64P : List D → Option D
  | [x, y, c] => bif Nat.ble c.i.toNat 1 then some (.tup [.int .u64 (((x.i.toNat + y.i.toNat + c.i.toNat) % 18446744073709551616 : Nat) : Int), .int .u64 (((x.i.toNat + y.i.toNat + c.i.toNat) / 18446744073709551616 : Nat) : Int)]) else none
  | _ => none
def add64E : Array Value → Sem Value := fun args => do
  let (x, y, c) ← Extern.MathBitsCarry.three "Add64" args
  pure (Extern.MathBitsCarry.pair ((x + y + c) % Extern.MathBitsCarry.m64) ((x + y + c) / Extern.MathBitsCarry.m64))
theorem run_asInt {P : Program} {k : IntKind} {n : Int} (w : World) : (asInt (.int k n)).run P w = .ok n w := by rfl
theorem add64_ok {P : Program} {ty : Nat → K} {f : Nat} {fn0 : Func} (hf : P.funcs[f]? = some fn0) (hg : (fn0.name == "runtime.NumGoroutine") = false) (hb : fn0.body.isNone = true) (h1 : Extern.findNext fn0 = none) (h2 : Extern.find fn0 = some add64E)
    (hp : fn0.params.toList.map ty = [.int .u64, .int .u64, .int .u64]) {t1 t2 : Nat} (hr : fn0.resultTypes.toList = [t1, t2]) (ht1 : ty t1 = .int .u64) (ht2 : ty t2 = .int .u64) : PrimOk P ty f add64P := by
  intro fn M ds xs r w hfn hE hrun
  rw [hf] at hfn
  simp only [Option.some.injEq] at hfn
  subst hfn
  rw [hp] at hE
  unfold add64P at hrun
  split at hrun
  · rename_i x y c
    simp only [Each] at hE
    obtain ⟨_, _, vx, _, e1, rfl, hx, _, _, vy, _, e2, rfl, hy, _, _, vc, _, e3, rfl, hc, _, e4⟩ := hE
    simp only [List.cons.injEq] at e1
    obtain ⟨rfl, rfl⟩ := e1
    simp only [List.cons.injEq] at e2
    obtain ⟨rfl, rfl⟩ := e2
    simp only [List.cons.injEq] at e3
    obtain ⟨rfl, rfl⟩ := e3
    have hvx := rep_int hx
    have hvy := rep_int hy
    have hvc := rep_int hc
    subst hvx hvy hvc
    rw [Bool.cond_eq_ite] at hrun
    split at hrun
    · rename_i hle
      simp only [Option.some.injEq] at hrun
      subst hrun
      have hc1 : ¬ c.i.toNat > 1 := by have := Nat.le_of_ble_eq_true hle; omega
      refine ⟨Extern.MathBitsCarry.pair ((x.i.toNat + y.i.toNat + c.i.toNat) % Extern.MathBitsCarry.m64) ((x.i.toNat + y.i.toNat + c.i.toNat) / Extern.MathBitsCarry.m64), ?_, fun M' => ?_⟩
      · simp only [callFunc, run_bind, program, Sem.run, hf, hg, hb, Bool.false_eq_true, if_false, if_true, h1, h2, run_mark]
        have hrun : Sem.run P (add64E #[.int .u64 x.i, .int .u64 y.i, .int .u64 c.i]) w = .ok (Extern.MathBitsCarry.pair ((x.i.toNat + y.i.toNat + c.i.toNat) % Extern.MathBitsCarry.m64) ((x.i.toNat + y.i.toNat + c.i.toNat) / Extern.MathBitsCarry.m64)) w := by
          have h3 : Sem.run P (Extern.MathBitsCarry.three "Add64" #[.int .u64 x.i, .int .u64 y.i, .int .u64 c.i]) w = .ok (x.i.toNat, y.i.toNat, c.i.toNat) w := by
            show Sem.run P (Bind.bind (asInt (.int .u64 c.i)) _) w = _
            rw [run_bind, run_asInt]
            simp only [if_neg hc1, run_bind, run_pure, run_asInt]
            rfl
          simp only [add64E, run_bind, h3, run_pure]
        subst e4
        rw [show (Value.int IntKind.u64 x.i :: Value.int IntKind.u64 y.i :: Value.int IntKind.u64 c.i :: ([] : List Value)).toArray = #[.int .u64 x.i, .int .u64 y.i, .int .u64 c.i] from rfl, hrun]
        rfl
      · rw [hr]
        simp only [ResRep]
        refine ⟨_, _, rfl, rfl, ?_⟩
        simp only [List.map_cons, List.map_nil, ht1, ht2, Each]
        exact ⟨_, _, _, _, rfl, rfl, ⟨rfl, rfl⟩, _, _, _, _, rfl, rfl, ⟨rfl, rfl⟩, rfl, rfl⟩
    · simp at hrun
  · simp at hrun
end Go.AM
namespace Go.AM
open Go Go.RowKit
def cutCells (sz : Nat → Nat) (κ : K) (cs : List Value) : Option (Value × List Value) :=
  if κ.isAgg then (if ksz sz κ ≤ cs.length then some (.agg (cs.take (ksz sz κ)).toArray, cs.drop (ksz sz κ)) else none)
  else match cs with | v :: cs => (match v with | .agg _ => none | _ => some (v, cs)) | [] => none
mutual
def zrep (ty : Nat → K) (sz : Nat → Nat) : D → K → Value → Bool
  | .bool b, .bool, .bool b' => b == b'
  | .int k n, .int k', .int k'' n' => decide (k = k') && decide (k = k'') && n == n'
  | .str s, .str, .string s' => s.data.toList == s'.data.toList
  | .agg ds, κ, .agg cs => κ.isAgg && zreps ty sz ds (κ.kids ty) cs.toList
  | .slice false [], .slice _, .slice none 0 0 => true
  | .nilIface, .iface _, .nilIface => true
  | .nilFunc, .func, .nilFunc => true
  | .nilPtr, .ptr _, .pointer none => true
  | .nilMap, .map _ _, .map none => true
  | _, _, _ => false
def zreps (ty : Nat → K) (sz : Nat → Nat) : List D → List K → List Value → Bool
  | [], [], [] => true
  | d :: ds, κ :: κs, cs => match cutCells sz κ cs with
    | some (x, rest) => zrep ty sz d κ x && zreps ty sz ds κs rest
    | none => false
  | _, _, _ => false
end
section
variable {ty : Nat → K} {sz : Nat → Nat}
mutual
theorem zrep_ok {M : Mem} : ∀ (d : D) (κ : K) (v : Value), zrep ty sz d κ v = true → Rep ty M d κ v
  | .bool b, κ, v, h => by
    cases κ <;> cases v <;> simp [zrep] at h
    subst h; simp [Rep]
  | .int k n, κ, v, h => by
    cases κ <;> cases v <;> simp [zrep] at h
    obtain ⟨⟨rfl, rfl⟩, rfl⟩ := h; simp [Rep]
  | .str s, κ, v, h => by
    cases κ <;> cases v <;> simp [zrep] at h
    rename_i s'
    have : s = s' := by cases s; cases s'; congr
    subst this; simp [Rep]
  | .agg ds, κ, v, h => by
    cases v <;> simp [zrep] at h
    rename_i cs
    simp only [Rep]
    exact ⟨h.1, cs, rfl, zreps_ok ds _ _ h.2⟩
  | .slice nn ds, κ, v, h => by
    unfold zrep at h
    split at h <;> simp at *
    rename_i h1
    obtain ⟨rfl, rfl⟩ := h1
    simp only [Rep]
    exact ⟨_, none, 0, rfl, rfl, Nat.le_refl _, rfl, fun _ => rfl, .inl trivial⟩
  | .iface t x, κ, v, h => by cases κ <;> cases v <;> simp [zrep] at h
  | .nilIface, κ, v, h => by cases κ <;> cases v <;> simp [zrep] at h; simp [Rep]
  | .fn f, κ, v, h => by cases κ <;> cases v <;> simp [zrep] at h
  | .nilFunc, κ, v, h => by cases κ <;> cases v <;> simp [zrep] at h; simp [Rep]
  | .nilPtr, κ, v, h => by
    unfold zrep at h
    split at h <;> simp at *
    simp [Rep]
  | .nilMap, κ, v, h => by
    unfold zrep at h
    split at h <;> simp at *
    simp [Rep]
  | .tup ds, κ, v, h => by cases κ <;> cases v <;> simp [zrep] at h
theorem zreps_ok {M : Mem} : ∀ (ds : List D) (κs : List K) (cs : List Value), zreps ty sz ds κs cs = true → Reps ty M ds κs cs
  | [], κs, cs, h => by
    cases κs <;> cases cs <;> simp [zreps] at h
    simp [Reps]
  | d :: ds, κs, cs, h => by
    cases κs with
    | nil => simp [zreps] at h
    | cons κ κs =>
      simp only [zreps] at h
      split at h
      · rename_i x rest hc
        simp only [Bool.and_eq_true] at h
        simp only [Reps]
        refine ⟨κ, κs, x, rest, rfl, ?_, zrep_ok d κ x h.1, zreps_ok ds κs rest h.2⟩
        unfold cutCells at hc
        split at hc
        · split at hc
          · simp only [Option.some.injEq, Prod.mk.injEq] at hc
            obtain ⟨rfl, rfl⟩ := hc
            simp [cells_agg]
          · simp at hc
        · split at hc
          · rename_i v cs'
            split at hc
            · simp at hc
            · rename_i hna
              simp only [Option.some.injEq, Prod.mk.injEq] at hc
              obtain ⟨rfl, rfl⟩ := hc
              cases v <;> first | (exact absurd rfl (hna _)) | simp [Value.cells]
          · simp at hc
      · simp at h
end
end
def fieldsB (P : Program) (ty : Nat → K) (sz : Nat → Nat) (κ : K) : List Field → List Nat → Nat → Bool
  | [], [], _ => true
  | f :: fields, t :: fs, j => f.type == t && f.offset == kOff sz κ j && decide (0 < sz f.type) && f.name != "_" && (ty f.type).ok && fieldsB P ty sz κ fields fs (j + 1)
  | _, _, _ => false
def descB (P : Program) (ty : Nat → K) (t : Nat) (κ : K) : Bool :=
  match κ, P.underlying t with
  | .bool, some .bool => true
  | .int k, some (.int k') => decide (k = k')
  | .str, some .string => true
  | .struct fs, some (.struct fields) => fieldsB P ty P.cellsOf (.struct fs) fields.toList fs 0
  | .array n e, some (.array n' e') => n == n' && e == e' && decide (0 < P.cellsOf e) && (ty e).ok
  | .slice e, some (.slice e') => e == e' && (ty e).ok
  | .map a e, some (.map a' e') => a == a' && e == e' && (ty a).ok && (ty e).ok
  | .iface m, some (.interface ms) => ms.isEmpty == !m
  | .ptr e, some (.pointer e') => e == e'
  | .func, some (.func _ _ _) => true
  | _, _ => false
def tyB (P : Program) (ty : Nat → K) (t : Nat) : Bool :=
  match ty t with
  | .bad => true
  | κ => match P.info? t with
    | none => false
    | some i => i.size == ksz P.cellsOf κ && decide (i.bytes ≤ 4096) && decide (i.size ≤ 4096) && (match i.zero with | some z => zrep ty P.cellsOf (zero ty κ) κ z | none => false) &&
      (!K.cmp ty 20 κ || (i.comparable && !P.eqGuardType P.depth t && !P.stoodInHeld t)) && descB P ty t κ
theorem ok_ne {κ : K} (h : κ.ok = true) : κ ≠ .bad := by rintro rfl; simp [K.ok] at h
theorem fieldsB_ok {P : Program} {ty : Nat → K} {sz : Nat → Nat} {κ : K} : ∀ (fields : List Field) (fs : List Nat) (j : Nat), fieldsB P ty sz κ fields fs j = true →
    fields.map (·.type) = fs ∧ ∀ (i : Nat) (f : Field), fields[i]? = some f → f.offset = kOff sz κ (j + i) ∧ 0 < sz f.type ∧ f.name ≠ "_" ∧ ty f.type ≠ .bad
  | [], [], j, _ => ⟨rfl, by simp⟩
  | [], _ :: _, j, h => by simp [fieldsB] at h
  | _ :: _, [], j, h => by simp [fieldsB] at h
  | f :: fields, t :: fs, j, h => by
    simp only [fieldsB, Bool.and_eq_true, beq_iff_eq, decide_eq_true_eq, bne_iff_ne] at h
    obtain ⟨⟨⟨⟨⟨h1, h2⟩, h3⟩, h4⟩, h5⟩, h6⟩ := h
    obtain ⟨k1, k2⟩ := fieldsB_ok fields fs (j + 1) h6
    refine ⟨by simp [h1, k1], fun i f' hi => ?_⟩
    cases i with
    | zero => simp at hi; subst hi; exact ⟨h2, h3, h4, ok_ne h5⟩
    | succ i =>
      obtain ⟨a, b⟩ := k2 i f' (by simpa using hi)
      exact ⟨by rw [a]; congr 1; omega, b⟩
theorem tyB_ok {P : Program} {ty : Nat → K} {t : Nat} (h : tyB P ty t = true) (hb : ty t ≠ .bad) : ∃ i, TyFact P ty t i := by
  unfold tyB at h
  split at h
  · rename_i hk; exact absurd hk hb
  · split at h
    · simp at h
    · rename_i i hi
      simp only [Bool.and_eq_true, beq_iff_eq, decide_eq_true_eq, Bool.or_eq_true, Bool.not_eq_true'] at h
      obtain ⟨⟨⟨⟨⟨h1, h2⟩, h3⟩, h4⟩, h5⟩, h6⟩ := h
      refine ⟨i, hi, h1, h2, h3, ?_, ?_, ?_⟩
      · cases hz : i.zero with
        | none => rw [hz] at h4; simp at h4
        | some z => rw [hz] at h4; exact ⟨z, rfl, fun M => zrep_ok _ _ _ h4⟩
      · intro hc
        rcases h5 with h5 | h5
        · rw [hc] at h5; simp at h5
        · exact ⟨h5.1.1, h5.1.2, h5.2⟩
      · unfold descB at h6
        split at h6
        case h_11 => simp at h6
        all_goals (rename_i hk hu; rw [hk]; simp only [descOk])
        · exact hu
        · simp only [decide_eq_true_eq] at h6; subst h6; exact hu
        · exact hu
        · obtain ⟨k1, k2⟩ := fieldsB_ok _ _ _ h6
          exact ⟨_, hu, k1, fun j f hj => by have := k2 j f (by simpa using hj); simpa using this⟩
        · simp only [Bool.and_eq_true, beq_iff_eq, decide_eq_true_eq] at h6
          obtain ⟨⟨⟨rfl, rfl⟩, h7⟩, h8⟩ := h6
          exact ⟨hu, h7, ok_ne h8⟩
        · simp only [Bool.and_eq_true, beq_iff_eq] at h6
          obtain ⟨rfl, h8⟩ := h6
          exact ⟨hu, ok_ne h8⟩
        · simp only [Bool.and_eq_true, beq_iff_eq] at h6
          obtain ⟨⟨⟨rfl, rfl⟩, h7⟩, h8⟩ := h6
          exact ⟨hu, ok_ne h7, ok_ne h8⟩
        · exact ⟨_, hu, by simpa using h6⟩
        · simp only [beq_iff_eq] at h6; subst h6; exact hu
        · exact ⟨_, _, _, hu⟩
theorem tyOk_of {P : Program} {tys : List K} (h : (List.range tys.length).all (tyB P fun t => tys.getD t .bad) = true) : TyOk P fun t => tys.getD t .bad := by
  intro t ht
  refine tyB_ok ?_ ht
  have hlt : t < tys.length := by
    rcases Nat.lt_or_ge t tys.length with h | h
    · exact h
    · simp [List.getD_eq_getElem?_getD, List.getElem?_eq_none h] at ht
  exact List.all_eq_true.1 h t (List.mem_range.2 hlt)
end Go.AM
namespace Go.Proofs
open Go.Shelf
def Tryd.lays197_ren : Go.Shelf.Ren := ⟨fun | 197 => 115 | 260 => 121 | n => n, fun | 9 => 9 | 21 => 21 | 3 => 3 | 4 => 4 | 5 => 5 | 105 => 162 | 119 => 179 | 0 => 0 | 46 => 172 | 139 => 182 | 138 => 181 | n => n, fun | 3 => 0 | 4 => 1 | n => n⟩
theorem Tryd.lays197 : Go.Proofs.Lays.n197 Tryd.prog Tryd.lays197_ren := {
  mixed := by kernel_rfl
  f197 := Tryd.func115.trans (congrArg some (by kernel_rfl))
  f260 := Tryd.func121.trans (congrArg some (by kernel_rfl))
  t0 := Tryd.underlying0
  a0 := Tryd.isAgg0
  z0 := Tryd.sizeOf0
  v0 := Tryd.zeroValue0
  t3 := Tryd.underlying3
  a3 := Tryd.isAgg3
  z3 := Tryd.sizeOf3
  v3 := Tryd.zeroValue3
  t4 := Tryd.underlying4
  a4 := Tryd.isAgg4
  z4 := Tryd.sizeOf4
  v4 := Tryd.zeroValue4
  t5 := Tryd.underlying5
  a5 := Tryd.isAgg5
  z5 := Tryd.sizeOf5
  v5 := Tryd.zeroValue5
  t9 := Tryd.underlying9
  a9 := Tryd.isAgg9
  z9 := Tryd.sizeOf9
  v9 := Tryd.zeroValue9
  t21 := Tryd.underlying21
  a21 := Tryd.isAgg21
  z21 := Tryd.sizeOf21
  v21 := Tryd.zeroValue21
  t46 := Tryd.underlying172
  a46 := Tryd.isAgg172
  z46 := Tryd.sizeOf172
  v46 := Tryd.zeroValue172
  t105 := Tryd.underlying162
  a105 := Tryd.isAgg162
  z105 := Tryd.sizeOf162
  v105 := Tryd.zeroValue162
  t119 := Tryd.underlying179
  a119 := Tryd.isAgg179
  z119 := Tryd.sizeOf179
  t138 := Tryd.underlying181
  a138 := Tryd.isAgg181
  z138 := Tryd.sizeOf181
  v138 := Tryd.zeroValue181
  t139 := Tryd.underlying182
  a139 := Tryd.isAgg182
  z139 := Tryd.sizeOf182
  v139 := Tryd.zeroValue182
  g3 := by kernel_rfl
  g4 := by kernel_rfl }
def Tryd.lays22_ren : Go.Shelf.Ren := ⟨fun | 22 => 87 | 29 => 104 | 30 => 105 | 36 => 110 | 17 => 116 | n => n, fun | 24 => 40 | 9 => 9 | 3 => 3 | 4 => 4 | 0 => 0 | n => n, fun | n => n⟩
theorem Tryd.lays22 : Go.Proofs.Lays2.n22 Tryd.prog Tryd.lays22_ren := {
  mixed := by kernel_rfl
  f17 := Tryd.func116.trans (congrArg some (by kernel_rfl))
  f22 := Tryd.func87.trans (congrArg some (by kernel_rfl))
  f29 := Tryd.func104.trans (congrArg some (by kernel_rfl))
  f30 := Tryd.func105.trans (congrArg some (by kernel_rfl))
  f36 := Tryd.func110.trans (congrArg some (by kernel_rfl))
  t0 := Tryd.underlying0
  a0 := Tryd.isAgg0
  z0 := Tryd.sizeOf0
  v0 := Tryd.zeroValue0
  t3 := Tryd.underlying3
  a3 := Tryd.isAgg3
  z3 := Tryd.sizeOf3
  v3 := Tryd.zeroValue3
  t4 := Tryd.underlying4
  a4 := Tryd.isAgg4
  z4 := Tryd.sizeOf4
  v4 := Tryd.zeroValue4
  t9 := Tryd.underlying9
  a9 := Tryd.isAgg9
  z9 := Tryd.sizeOf9
  v9 := Tryd.zeroValue9
  t24 := Tryd.underlying40
  a24 := Tryd.isAgg40
  z24 := Tryd.sizeOf40
  v24 := Tryd.zeroValue40
  i9 := by kernel_rfl }
theorem Tryd.lays197ok : Lays.n197 Tryd.prog Tryd.lays197_ren := Tryd.lays197
end Go.Proofs
namespace Go.AM.SD
open Go Go.AM Go.Proofs Go.RowKit
def tys : List K := [
.bad, .func, .int .i64, .int .i64, .bool, .int .u8, .int .u8, .struct [2, 3, 4, 6],
.struct [2, 3, 4, 6], .str, .str, .str, .int .u64, .bad, .bad, .ptr 189,
.ptr 192, .ptr 201, .struct [17], .struct [17], .iface false, .int .i32, .slice 38, .func,
.func, .slice 44, .struct [25, 3, 3], .struct [25, 3, 3], .int .i64, .bad, .func, .func,
.bad, .func, .int .i64, .array 32 5, .array 32 5, .struct [34, 3, 9, 3, 3, 36], .struct [34, 3, 9, 3, 3, 36], .func,
.slice 9, .struct [3, 9, 9, 4, 3, 40], .struct [3, 9, 9, 4, 3, 40], .struct [42, 3, 36], .struct [42, 3, 36], .slice 47, .struct [34, 9, 9, 3, 3, 3], .struct [34, 9, 9, 3, 3, 3],
.func, .slice 42, .struct [49, 3, 3], .struct [49, 3, 3], .slice 56, .bad, .func, .struct [28, 3, 9, 42, 40],
.struct [28, 3, 9, 42, 40], .bad, .func, .func, .func, .func, .func, .func,
.slice 3, .func, .func, .func, .func, .func, .func, .func,
.func, .func, .func, .func, .struct [75], .struct [75], .bad, .ptr 27,
.func, .func, .struct [81], .struct [81], .ptr 44, .func, .ptr 88, .struct [51, 47, 22],
.struct [51, 47, 22], .func, .array 12 89, .func, .func, .func, .func, .func,
.func, .func, .func, .func, .func, .func, .slice 106, .func,
.func, .iface true, .iface true, .str, .bad, .func, .func, .func,
.func, .bad, .func, .func, .func, .bad, .func, .func,
.int .i64, .array 32 5, .func, .func, .func, .func, .func, .func,
.str, .func, .func, .func, .func, .func, .func, .bad,
.func, .func, .func, .func, .bad, .func, .func, .func,
.func, .slice 21, .func, .func, .func, .bad, .map 34 20, .func,
.func, .func, .bad, .func, .func, .func, .func, .func,
.func, .func, .bad, .func, .func, .int .u32, .array 8 165, .array 64 165,
.bad, .func, .func, .func, .int .u64, .func, .int .u64, .slice 5,
.func, .func, .slice 165, .array 256 5, .struct [5, 5], .struct [5, 5], .array 16 181, .func,
.bad, .func, .func, .func, .struct [17, 17, 17, 9], .struct [17, 17, 17, 9], .array 0 16, .bad,
.bad, .func, .int .u8, .int .u8, .func, .ptr 5, .int .i32, .int .i32,
.struct [12, 12, 165, 194, 5, 5, 195, 196, 197, 198, 199], .struct [12, 12, 165, 194, 5, 5, 195, 196, 197, 198, 199], .bad]
def ty (t : Nat) : K := tys.getD t .bad
theorem tyOk : TyOk Tryd.prog ty := tyOk_of (by kernel_rfl)
theorem mixed : Tryd.prog.follows .mixedOrders = true := by kernel_rfl
def plainNames (l : List Func) : Bool := l.all fun f => !(f.name == "runtime.NumGoroutine")
theorem names : plainNames Tryd.prog.funcs.toList = true := by kernel_rfl
def plainRounds (l : List Func) : Bool := l.all roundsOk
theorem rounds_ok : plainRounds Tryd.prog.funcs.toList = true := by kernel_rfl
def look {A : Type} (l : List (Nat × A)) (f : Nat) : Option A := match l.find? fun e => e.1 == f with | some e => some e.2 | none => none
def look2 (l : List (Nat × Nat × Hint)) (f i : Nat) : Hint := match l.find? fun e => e.1 == f && e.2.1 == i with | some e => e.2.2 | none => {}
def prims : List (Nat × (List D → Option D)) := [(130, add64P)]
noncomputable def env (cons : List (Nat × Con)) (exts : List (Nat × Ext)) (hints : List (Nat × Nat × Hint)) (M : Nat) : Env :=
  { ty := ty, fn := fun f => Tryd.prog.funcs[f]?, con := look cons, hint := look2 hints, fuel := M + 1, ext := look exts, prim := look prims }
def I (w : World) : Prop := Lib.Utf8Tabs 0 1 w
def gl : Nat := 2
theorem hgl (w : World) (h : I w) : gl ≤ w.heap.size := by
  have := (h.2 0 (by omega)).1
  unfold gl
  rcases Nat.lt_or_ge 1 w.heap.size with h1 | h1
  · omega
  · simp [World.cell?, Array.getElem?_eq_none h1] at this
theorem hk (w w' : World) (hb : Below gl w w') (h : I w) : I w' := by
  have e : ∀ b o, b < 2 → w'.cell? ⟨b, o, none⟩ = w.cell? ⟨b, o, none⟩ := fun b o hb2 => cell_congr (hb.block b hb2)
  exact ⟨fun c hc => by rw [e 0 _ (by omega)]; exact h.1 c hc, fun i hi => by rw [e 1 _ (by omega), e 1 _ (by omega)]; exact h.2 i hi⟩
def ConOk (e : Nat × Con) : Prop := ∀ fn, Tryd.prog.funcs[e.1]? = some fn → Contract Tryd.prog ty I e.1 fn e.2
def XOk (e : Nat × Ext) : Prop := ExtOk Tryd.prog ty I gl e.1 e.2
theorem allNil {B : Type} {Q : B → Prop} : ∀ x ∈ ([] : List B), Q x := fun _ h => absurd h List.not_mem_nil
theorem allCons {B : Type} {Q : B → Prop} {e : B} {l : List B} (h : Q e) (hl : ∀ x ∈ l, Q x) : ∀ x ∈ e :: l, Q x := by
  intro x hx
  rcases List.mem_cons.1 hx with rfl | hx
  · exact h
  · exact hl x hx
theorem prims_ok : ∀ e ∈ prims, PrimOk Tryd.prog ty e.1 e.2 := allCons (add64_ok (fn0 := Tryd.f130) (by kernel_rfl) (by kernel_rfl) (by kernel_rfl) (by kernel_rfl) (by kernel_rfl) (by kernel_rfl) (t1 := Tryd.f130.resultTypes[0]!) (t2 := Tryd.f130.resultTypes[1]!) (by kernel_rfl) (by kernel_rfl) (by kernel_rfl)) allNil
def voidC : Con := { run := fun _ => none }
theorem void_ok (n : Nat) : ConOk (n, voidC) := fun fn _ X w ds xs r _ _ _ h => by simp [voidC] at h
theorem envOk {cons : List (Nat × Con)} {exts : List (Nat × Ext)} {hints : List (Nat × Nat × Hint)} {M : Nat} (hc : ∀ e ∈ cons, ConOk e) (hx : ∀ e ∈ exts, XOk e) : EnvOk Tryd.prog (env cons exts hints M) I gl := by
  refine ⟨tyOk, fun f fn hf => ⟨hf, ?_⟩, fun f c fn hl hf => ?_, hk, mixed, fun f x hl => ?_, fun f fn hf => List.all_eq_true.1 rounds_ok fn (by have hf' : Tryd.prog.funcs[f]? = some fn := hf; rw [← Array.getElem?_toList] at hf'; exact List.mem_of_getElem? hf'), fun f x hl => ?_⟩
  · have h := List.all_eq_true.1 names fn (by have hf' : Tryd.prog.funcs[f]? = some fn := hf; rw [← Array.getElem?_toList] at hf'; exact List.mem_of_getElem? hf')
    simpa using h
  · unfold env look at hl
    simp only at hl
    split at hl
    · rename_i e he
      simp only [Option.some.injEq] at hl
      subst hl
      have h1 : e.1 = f := by simpa using List.find?_some he
      subst h1
      exact hc e (List.mem_of_find?_eq_some he) fn hf
    · simp at hl
  · unfold env look at hl
    simp only at hl
    split at hl
    · rename_i e he
      simp only [Option.some.injEq] at hl
      subst hl
      have h1 : e.1 = f := by simpa using List.find?_some he
      subst h1
      exact hx e (List.mem_of_find?_eq_some he)
    · simp at hl
  · unfold env look at hl
    simp only at hl
    split at hl
    · rename_i e he
      simp only [Option.some.injEq] at hl
      subst hl
      have h1 : e.1 = f := by simpa using List.find?_some he
      subst h1
      exact prims_ok e (List.mem_of_find?_eq_some he)
    · simp at hl
theorem fun115 : Tryd.prog.funcs[115]? = some Tryd.f115 := by kernel_rfl
theorem decode_ok : ConOk (115, decodeC) := by
  intro fn hfn
  obtain rfl : Tryd.f115 = fn := Option.some.inj (fun115.symm.trans hfn)
  exact decodeC_ok (ρ := Tryd.lays197_ren) Tryd.lays197 (fun _ h => h) (t5 := Tryd.f115.resultTypes[0]!) (t3 := Tryd.f115.resultTypes[1]!) (by kernel_rfl) (by kernel_rfl) (by kernel_rfl) (by kernel_rfl)
theorem insert_ok : XOk (87, insertX 9) := insertX_ok (ρ := Tryd.lays22_ren) tyOk Tryd.lays22 (by kernel_rfl)
end Go.AM.SD
namespace Go.AM.SD
open Go Go.AM Go.Proofs Go.RowKit
def FUEL : Nat := 1048576
abbrev DEPTH : Nat := 12
namespace F47
def c : Con := { run := fun ds => match ds with | [p0] => s FUEL p0 | _ => none, fresh := false, plain := false }
end F47
namespace F48
def of4 : List Leaf → Option S4
  | [.i i21, .n n22, .n n23, .d d24, .i i25, .i i26, .i i27, .i i28, .s s29, .i i30, .i i31, .d d32, .i i33, .i i34, .d d35, .i i36, .i i37, .d d38, .b b39, .l l40] => some ⟨i21, n22, n23, d24, i25, i26, i27, i28, s29, i30, i31, d32, i33, i34, d35, i36, i37, d38, b39, l40⟩
  | _ => none
def c : Con := { run := fun ds => match ds with | [p0, p1] => s FUEL p0.i p1 | _ => none, fresh := false, plain := true }
end F48
namespace F78
def cons : List (Nat × Con) := []
def exts : List (Nat × Ext) := []
def h : List (Nat × Nat × Hint) := []
noncomputable def e (M : Nat) : Env := env cons exts h M
noncomputable def t78_0 (_ : Nat) : List Ent := []
theorem t78_0_ok (M : Nat) : AllOk (e M) (tblOf (t78_0 M)) := AllOk.nil
def s (M : Nat) (p0 : Int) : Option D :=
  (cond (ltI p0 32) (some (db true)) (cond (eqI p0 47) (some (db true)) (cond (leI 127 p0) (cond (leI p0 159) (some (db true)) (some (db (eqI p0 65533)))) (some (db (eqI p0 65533))))))
theorem run (M : Nat) (p0 : Int) : callS (e M) (tblOf (t78_0 M)) 12 (.fn 78) [.d (.int .i32) (D.int .i32 p0)] [] (fun v H => finish ty [4] v H) = s M p0 := by kernel_rfl
noncomputable abbrev t (M : Nat) : List Ent := t78_0 M
theorem t_ok (M : Nat) : AllOk (e M) (tblOf (t M)) := t78_0_ok M
def c : Con := { run := fun ds => match ds with | [p0] => s FUEL p0.i | _ => none, fresh := false, plain := true }
theorem fun_at : Tryd.prog.funcs[78]? = some Tryd.f78 := by kernel_rfl
theorem params : Tryd.f78.params.toList.map ty = [(.int .i32)] := by kernel_rfl
theorem results : Tryd.f78.resultTypes.toList = [4] := by kernel_rfl
theorem flat : Tryd.f78.resultTypes.toList.all (fun t => K.flat ty 20 (ty t)) = true := by kernel_rfl
theorem ok : ConOk (78, c) := by
  intro fn hfn
  obtain rfl : Tryd.f78 = fn := Option.some.inj (fun_at.symm.trans hfn)
  refine contract_flat (n := 20) hgl (fun _ => flat) (fun ds r hh0 hr => ?_)
  rw [params] at hh0
  obtain ⟨p0, ds0, rfl, h0, hh1⟩ := hass_cons hh0
  obtain ⟨p0, rfl⟩ := has_int h0
  obtain rfl := hass_nil hh1
  refine ⟨e FUEL, DEPTH, tblOf (t FUEL), envOk allNil allNil, rfl, t_ok FUEL, ?_⟩
  rw [params, results]
  exact (run FUEL p0).trans hr
end F78
namespace F79
def cons : List (Nat × Con) := []
def exts : List (Nat × Ext) := []
def h : List (Nat × Nat × Hint) := [(79, 3, { live := [3, 5], rows := [], own := false, inpl := false })]
noncomputable def e (M : Nat) : Env := env cons exts h M
noncomputable def t79_0 (_ : Nat) : List Ent := []
theorem t79_0_ok (M : Nat) : AllOk (e M) (tblOf (t79_0 M)) := AllOk.nil
structure S3 where
  i1 : Int
  s2 : ByteArray
  n3 : Nat
inductive X3 where
  | e0 (i1 : Int) (s2 : ByteArray) (n3 : Nat)
def st3 (M : Nat) : S3 → (S3 → Option D) → (X3 → Option D) → Option D
  | ⟨i1, s2, n3⟩, rec, K => (cond (decide (n3 < s2.size)) (rec ⟨(ad .i64 i1 1), s2, (n3 + (Utf8.decode s2 n3).2)⟩) (K (.e0 i1 s2 n3)))
def lv3 : S3 → List Leaf
  | ⟨i1, s2, n3⟩ => [.i i1, .s s2, .n n3]
def of3 : List Leaf → Option S3
  | [.i i1, .s s2, .n n3] => some ⟨i1, s2, n3⟩
  | _ => none
def ex3 (k : Kont) : X3 → Option D
  | .e0 i1 s2 n3 => k (.exit 0) (us 3 ((.d (.int .i64) (di i1)) :: (us 1 ((.iter 0) :: ((.tup [(.d .bool (db false))]) :: ((.d .bool (db false)) :: (us 3 []))))))) [(.iter s2 n3)]
def ps3 : List PV := (up 3 ((.d (.int .i64) (.int .i64)) :: (up 1 ((.iter 0) :: (up 5 [])))))
def qs3 : List PO := [.iter]
noncomputable def sum3 (M : Nat) : Sum := sumS [3, 5] ps3 qs3 [] of3 (st3 M) ex3 M
theorem sok3 (M : Nat) : SumOk (loopRd (e M) 79 3) (e M) (call (e M) 11) 79 0 (loopAt (e M) 79 3) (sum3 M) :=
  sumOk_st (T := tblOf (t79_0 M)) (n0 := 1) (lv := lv3) (t79_0_ok M) (by kernel_rfl) rfl (by intro ls s h; unfold of3 at h; (repeat' split at h) <;> simp at h; subst h; rfl) (by intro s; kernel_rfl) (by intro s; kernel_rfl) (by intro s nx k; kernel_rfl)
noncomputable def t79_1 (M : Nat) : List Ent := ⟨79, 11, 0, 3, sum3 M⟩ :: t79_0 M
theorem t79_1_ok (M : Nat) : AllOk (e M) (tblOf (t79_1 M)) := (t79_0_ok M).add ⟨79, 11, 0, 3, sum3 M⟩ (by kernel_rfl) (sok3 M)
def s (M : Nat) (p0 : ByteArray) : Option D :=
  (goS (st3 M) M ⟨0, p0, 0⟩ fun x => match x with | .e0 i1 s2 n3 => (some (di i1)))
theorem run (M : Nat) (p0 : ByteArray) : callS (e M) (tblOf (t79_1 M)) 12 (.fn 79) [.d .str (dS p0)] [] (fun v H => finish ty [3] v H) = s M p0 := by kernel_rfl
noncomputable abbrev t (M : Nat) : List Ent := t79_1 M
theorem t_ok (M : Nat) : AllOk (e M) (tblOf (t M)) := t79_1_ok M
def c : Con := { run := fun ds => match ds with | [p0] => s FUEL p0.s | _ => none, fresh := false, plain := true }
theorem fun_at : Tryd.prog.funcs[79]? = some Tryd.f79 := by kernel_rfl
theorem params : Tryd.f79.params.toList.map ty = [.str] := by kernel_rfl
theorem results : Tryd.f79.resultTypes.toList = [3] := by kernel_rfl
theorem flat : Tryd.f79.resultTypes.toList.all (fun t => K.flat ty 20 (ty t)) = true := by kernel_rfl
theorem ok : ConOk (79, c) := by
  intro fn hfn
  obtain rfl : Tryd.f79 = fn := Option.some.inj (fun_at.symm.trans hfn)
  refine contract_flat (n := 20) hgl (fun _ => flat) (fun ds r hh0 hr => ?_)
  rw [params] at hh0
  obtain ⟨p0, ds0, rfl, h0, hh1⟩ := hass_cons hh0
  obtain ⟨p0, rfl⟩ := has_str h0
  obtain rfl := hass_nil hh1
  refine ⟨e FUEL, DEPTH, tblOf (t FUEL), envOk allNil allNil, rfl, t_ok FUEL, ?_⟩
  rw [params, results]
  exact (run FUEL p0).trans hr
end F79
namespace F49
def cons : List (Nat × Con) := [(78, F78.c), (79, F79.c)]
def exts : List (Nat × Ext) := []
def h : List (Nat × Nat × Hint) := [(103, 2, { live := [1, 2, 10], rows := [], own := false, inpl := false })]
noncomputable def e (M : Nat) : Env := env cons exts h M
noncomputable def t49_0 (_ : Nat) : List Ent := []
theorem t49_0_ok (M : Nat) : AllOk (e M) (tblOf (t49_0 M)) := AllOk.nil
structure S103_2 where
  b2 : Bool
  s3 : ByteArray
  n4 : Nat
inductive X103_2 where
  | e0 (b2 : Bool) (s3 : ByteArray) (n4 : Nat) (r5 : D) (r6 : D)
  | e1 (b2 : Bool) (s3 : ByteArray) (n4 : Nat)
def st103_2 (M : Nat) : S103_2 → (S103_2 → Option D) → (X103_2 → Option D) → Option D
  | ⟨b2, s3, n4⟩, rec, K => (cond (decide (n4 < s3.size)) (bd (F78.s FUEL ((Utf8.decode s3 n4).1 : Int)) fun r5 => (bd (match D.eqv ty eqDepth r5 (db b2) .bool with | some z => some (.bool z) | none => none) fun r6 => (cond r6.b (K (.e0 b2 s3 n4 r5 r6)) (rec ⟨b2, s3, (n4 + (Utf8.decode s3 n4).2)⟩)))) (K (.e1 b2 s3 n4)))
def lv103_2 : S103_2 → List Leaf
  | ⟨b2, s3, n4⟩ => [.b b2, .s s3, .n n4]
def of103_2 : List Leaf → Option S103_2
  | [.b b2, .s s3, .n n4] => some ⟨b2, s3, n4⟩
  | _ => none
def ex103_2 (k : Kont) : X103_2 → Option D
  | .e0 b2 s3 n4 r5 r6 => k .ret (us 1 ((.d .func (D.fn 78)) :: ((.d .bool (db b2)) :: (us 3 ((.d (.int .i64) (di (nI n4))) :: ((.d (.int .i64) (di (nI n4))) :: ((.d (.int .i32) (D.int .i32 ((Utf8.decode s3 n4).1 : Int))) :: (us 1 ((.iter 0) :: ((.tup [(.d .bool (db true)), (.d (.int .i64) (di (nI n4))), (.d (.int .i32) (D.int .i32 ((Utf8.decode s3 n4).1 : Int)))]) :: ((.d .bool (db true)) :: ((.d (.int .i64) (di (nI n4))) :: ((.d (.int .i32) (D.int .i32 ((Utf8.decode s3 n4).1 : Int))) :: ((.d .func (D.fn 78)) :: ((.d (.int .i32) (D.int .i32 ((Utf8.decode s3 n4).1 : Int))) :: ((.d .bool r5) :: ((.d .bool (db b2)) :: ((.d .bool r6) :: ((.d (.int .i64) (di (nI n4))) :: []))))))))))))))))))) [(.iter s3 (n4 + (Utf8.decode s3 n4).2))]
  | .e1 b2 s3 n4 => k (.exit 0) (us 1 ((.d .func (D.fn 78)) :: ((.d .bool (db b2)) :: (us 7 ((.iter 0) :: ((.tup [(.d .bool (db false))]) :: ((.d .bool (db false)) :: (us 8 [])))))))) [(.iter s3 n4)]
def ps103_2 : List PV := (up 1 ((.d .func (.fn 78)) :: ((.d .bool .bool) :: (up 7 ((.iter 0) :: (up 10 []))))))
def qs103_2 : List PO := [.iter]
noncomputable def sum103_2 (M : Nat) : Sum := sumS [1, 2, 10] ps103_2 qs103_2 [] of103_2 (st103_2 M) ex103_2 M
theorem sok103_2 (M : Nat) : SumOk (loopRd (e M) 103 2) (e M) (call (e M) 9) 103 0 (loopAt (e M) 103 2) (sum103_2 M) :=
  sumOk_st (T := tblOf (t49_0 M)) (n0 := 1) (lv := lv103_2) (t49_0_ok M) (by kernel_rfl) rfl (by intro ls s h; unfold of103_2 at h; (repeat' split at h) <;> simp at h; subst h; rfl) (by intro s; kernel_rfl) (by intro s; kernel_rfl) (by intro s nx k; kernel_rfl)
noncomputable def t49_1 (M : Nat) : List Ent := ⟨103, 9, 0, 2, sum103_2 M⟩ :: t49_0 M
theorem t49_1_ok (M : Nat) : AllOk (e M) (tblOf (t49_1 M)) := (t49_0_ok M).add ⟨103, 9, 0, 2, sum103_2 M⟩ (by kernel_rfl) (sok103_2 M)
def s (M : Nat) (p0 : ByteArray) : Option D :=
  (bd (F79.s FUEL p0) fun r1 => (cond (gtI r1.i 0) (cond (leI r1.i 24) (goS (st103_2 M) M ⟨true, p0, 0⟩ fun x => match x with | .e0 b2 s3 n4 r5 r6 => (cond (ltI (nI n4) 0) (cond (inb 0 p0.size) (cond (neI (byteAt p0 0) 32) (cond (inb (sb .i64 (nI p0.size) 1) p0.size) (some (db (neI (byteAt p0 (sb .i64 (nI p0.size) 1).toNat) 32))) none) (some (db false))) none) (some (db false))) | .e1 b2 s3 n4 => (cond (inb 0 p0.size) (cond (neI (byteAt p0 0) 32) (cond (inb (sb .i64 (nI p0.size) 1) p0.size) (some (db (neI (byteAt p0 (sb .i64 (nI p0.size) 1).toNat) 32))) none) (some (db false))) none)) (some (db false))) (some (db false))))
theorem run (M : Nat) (p0 : ByteArray) : callS (e M) (tblOf (t49_1 M)) 12 (.fn 49) [.d .str (dS p0)] [] (fun v H => finish ty [4] v H) = s M p0 := by kernel_rfl
noncomputable abbrev t (M : Nat) : List Ent := t49_1 M
theorem t_ok (M : Nat) : AllOk (e M) (tblOf (t M)) := t49_1_ok M
def c : Con := { run := fun ds => match ds with | [p0] => s FUEL p0.s | _ => none, fresh := false, plain := true }
theorem fun_at : Tryd.prog.funcs[49]? = some Tryd.f49 := by kernel_rfl
theorem params : Tryd.f49.params.toList.map ty = [.str] := by kernel_rfl
theorem results : Tryd.f49.resultTypes.toList = [4] := by kernel_rfl
theorem flat : Tryd.f49.resultTypes.toList.all (fun t => K.flat ty 20 (ty t)) = true := by kernel_rfl
theorem ok : ConOk (49, c) := by
  intro fn hfn
  obtain rfl : Tryd.f49 = fn := Option.some.inj (fun_at.symm.trans hfn)
  refine contract_flat (n := 20) hgl (fun _ => flat) (fun ds r hh0 hr => ?_)
  rw [params] at hh0
  obtain ⟨p0, ds0, rfl, h0, hh1⟩ := hass_cons hh0
  obtain ⟨p0, rfl⟩ := has_str h0
  obtain rfl := hass_nil hh1
  refine ⟨e FUEL, DEPTH, tblOf (t FUEL), envOk (allCons F78.ok (allCons F79.ok allNil)) allNil, rfl, t_ok FUEL, ?_⟩
  rw [params, results]
  exact (run FUEL p0).trans hr
end F49
namespace F50
def c : Con := { run := fun ds => match ds with | [p0, p1, p2] => s FUEL p0.i p1.i p2.i | _ => none, fresh := false, plain := true }
end F50
namespace F28
end F28
namespace F34
end F34
namespace F83
def cons : List (Nat × Con) := []
def exts : List (Nat × Ext) := []
def h : List (Nat × Nat × Hint) := []
noncomputable def e (M : Nat) : Env := env cons exts h M
noncomputable def t83_0 (_ : Nat) : List Ent := []
theorem t83_0_ok (M : Nat) : AllOk (e M) (tblOf (t83_0 M)) := AllOk.nil
def s (M : Nat) (p0 : Int) : Option D :=
  (cond (geI p0 0) (some (db (leI p0 1099511627776))) (some (db false)))
theorem run (M : Nat) (p0 : Int) : callS (e M) (tblOf (t83_0 M)) 12 (.fn 83) [.d (.int .i64) (di p0)] [] (fun v H => finish ty [4] v H) = s M p0 := by kernel_rfl
noncomputable abbrev t (M : Nat) : List Ent := t83_0 M
theorem t_ok (M : Nat) : AllOk (e M) (tblOf (t M)) := t83_0_ok M
def c : Con := { run := fun ds => match ds with | [p0] => s FUEL p0.i | _ => none, fresh := false, plain := true }
theorem fun_at : Tryd.prog.funcs[83]? = some Tryd.f83 := by kernel_rfl
theorem params : Tryd.f83.params.toList.map ty = [(.int .i64)] := by kernel_rfl
theorem results : Tryd.f83.resultTypes.toList = [4] := by kernel_rfl
theorem flat : Tryd.f83.resultTypes.toList.all (fun t => K.flat ty 20 (ty t)) = true := by kernel_rfl
theorem ok : ConOk (83, c) := by
  intro fn hfn
  obtain rfl : Tryd.f83 = fn := Option.some.inj (fun_at.symm.trans hfn)
  refine contract_flat (n := 20) hgl (fun _ => flat) (fun ds r hh0 hr => ?_)
  rw [params] at hh0
  obtain ⟨p0, ds0, rfl, h0, hh1⟩ := hass_cons hh0
  obtain ⟨p0, rfl⟩ := has_int h0
  obtain rfl := hass_nil hh1
  refine ⟨e FUEL, DEPTH, tblOf (t FUEL), envOk allNil allNil, rfl, t_ok FUEL, ?_⟩
  rw [params, results]
  exact (run FUEL p0).trans hr
end F83
namespace F58
def cons : List (Nat × Con) := [(83, F83.c)]
def exts : List (Nat × Ext) := []
def h : List (Nat × Nat × Hint) := []
noncomputable def e (M : Nat) : Env := env cons exts h M
noncomputable def t58_0 (_ : Nat) : List Ent := []
theorem t58_0_ok (M : Nat) : AllOk (e M) (tblOf (t58_0 M)) := AllOk.nil
def s (M : Nat) (p0 : D) (p1 : Int) : Option D :=
  (cond (p0.at 3).b (some (D.tup [p0, (di 5)])) (bd (F83.s FUEL p1) fun r1 => (cond (!r1.b) (some (D.tup [p0, (di 1)])) (some (D.tup [(D.agg ((D.agg (p0.parts.set 3 (db true))).parts.set 4 (di p1))), (di 0)])))))
theorem run (M : Nat) (p0 : D) (p1 : Int) : callS (e M) (tblOf (t58_0 M)) 12 (.fn 58) [.d (.struct [3, 9, 9, 4, 3, 40]) p0, .d (.int .i64) (di p1)] [] (fun v H => finish ty [42, 28] v H) = s M p0 p1 := by kernel_rfl
noncomputable abbrev t (M : Nat) : List Ent := t58_0 M
theorem t_ok (M : Nat) : AllOk (e M) (tblOf (t M)) := t58_0_ok M
def c : Con := { run := fun ds => match ds with | [p0, p1] => s FUEL p0 p1.i | _ => none, fresh := false, plain := false }
theorem fun_at : Tryd.prog.funcs[58]? = some Tryd.f58 := by kernel_rfl
theorem params : Tryd.f58.params.toList.map ty = [(.struct [3, 9, 9, 4, 3, 40]), (.int .i64)] := by kernel_rfl
theorem results : Tryd.f58.resultTypes.toList = [42, 28] := by kernel_rfl
theorem ok : ConOk (58, c) := by
  intro fn hfn
  obtain rfl : Tryd.f58 = fn := Option.some.inj (fun_at.symm.trans hfn)
  refine contract_flat (n := 20) hgl (fun h => by simp at h) (fun ds r hh0 hr => ?_)
  rw [params] at hh0
  obtain ⟨p0, ds0, rfl, h0, hh1⟩ := hass_cons hh0
  obtain ⟨p1, ds1, rfl, h1, hh2⟩ := hass_cons hh1
  obtain ⟨p1, rfl⟩ := has_int h1
  obtain rfl := hass_nil hh2
  refine ⟨e FUEL, DEPTH, tblOf (t FUEL), envOk (allCons F83.ok allNil) allNil, rfl, t_ok FUEL, ?_⟩
  rw [params, results]
  exact (run FUEL p0 p1).trans hr
end F58
namespace F61
def cons : List (Nat × Con) := [(83, F83.c)]
def exts : List (Nat × Ext) := []
def h : List (Nat × Nat × Hint) := []
noncomputable def e (M : Nat) : Env := env cons exts h M
noncomputable def t61_0 (_ : Nat) : List Ent := []
theorem t61_0_ok (M : Nat) : AllOk (e M) (tblOf (t61_0 M)) := AllOk.nil
def s (M : Nat) (p0 : D) (p1 : Int) : Option D :=
  (cond (!(p0.at 3).b) (some (D.tup [p0, (di 6)])) (bd (F83.s FUEL p1) fun r1 => (cond (!r1.b) (some (D.tup [p0, (di 1)])) (cond (ltI p1 (p0.at 4).i) (some (D.tup [p0, (di 7)])) (some (D.tup [(D.agg (p0.parts.set 4 (di p1))), (di 0)]))))))
theorem run (M : Nat) (p0 : D) (p1 : Int) : callS (e M) (tblOf (t61_0 M)) 12 (.fn 61) [.d (.struct [3, 9, 9, 4, 3, 40]) p0, .d (.int .i64) (di p1)] [] (fun v H => finish ty [42, 28] v H) = s M p0 p1 := by kernel_rfl
noncomputable abbrev t (M : Nat) : List Ent := t61_0 M
theorem t_ok (M : Nat) : AllOk (e M) (tblOf (t M)) := t61_0_ok M
def c : Con := { run := fun ds => match ds with | [p0, p1] => s FUEL p0 p1.i | _ => none, fresh := false, plain := false }
theorem fun_at : Tryd.prog.funcs[61]? = some Tryd.f61 := by kernel_rfl
theorem params : Tryd.f61.params.toList.map ty = [(.struct [3, 9, 9, 4, 3, 40]), (.int .i64)] := by kernel_rfl
theorem results : Tryd.f61.resultTypes.toList = [42, 28] := by kernel_rfl
theorem ok : ConOk (61, c) := by
  intro fn hfn
  obtain rfl : Tryd.f61 = fn := Option.some.inj (fun_at.symm.trans hfn)
  refine contract_flat (n := 20) hgl (fun h => by simp at h) (fun ds r hh0 hr => ?_)
  rw [params] at hh0
  obtain ⟨p0, ds0, rfl, h0, hh1⟩ := hass_cons hh0
  obtain ⟨p1, ds1, rfl, h1, hh2⟩ := hass_cons hh1
  obtain ⟨p1, rfl⟩ := has_int h1
  obtain rfl := hass_nil hh2
  refine ⟨e FUEL, DEPTH, tblOf (t FUEL), envOk (allCons F83.ok allNil) allNil, rfl, t_ok FUEL, ?_⟩
  rw [params, results]
  exact (run FUEL p0 p1).trans hr
end F61
namespace F89
def cons : List (Nat × Con) := []
def exts : List (Nat × Ext) := []
def h : List (Nat × Nat × Hint) := [(89, 2, { live := [0, 1, 7, 8], rows := [], own := false, inpl := false })]
noncomputable def e (M : Nat) : Env := env cons exts h M
noncomputable def t89_0 (_ : Nat) : List Ent := []
theorem t89_0_ok (M : Nat) : AllOk (e M) (tblOf (t89_0 M)) := AllOk.nil
structure S2 where
  d1 : D
  s2 : ByteArray
  i3 : Int
  i4 : Int
inductive X2 where
  | e0 (d1 : D) (s2 : ByteArray) (i3 : Int) (i4 : Int)
  | e1 (d1 : D) (s2 : ByteArray) (i3 : Int) (i4 : Int)
def st2 (M : Nat) : S2 → (S2 → Option D) → (X2 → Option D) → Option D
  | ⟨d1, s2, i3, i4⟩, rec, K => (cond (ltI i4 i3) (cond (inb i4 d1.elems.length) (cond (eqS s2 (ix d1.elems i4.toNat).s) (K (.e0 d1 s2 i3 i4)) (rec ⟨d1, s2, i3, (ad .i64 i4 1)⟩)) none) (K (.e1 d1 s2 i3 i4)))
def lv2 : S2 → List Leaf
  | ⟨d1, s2, i3, i4⟩ => [.d d1, .s s2, .i i3, .i i4]
def of2 : List Leaf → Option S2
  | [.d d1, .s s2, .i i3, .i i4] => some ⟨d1, s2, i3, i4⟩
  | _ => none
def ex2 (k : Kont) : X2 → Option D
  | .e0 d1 s2 i3 i4 => k .ret ((.d (.slice 9) d1) :: ((.d .str (dS s2)) :: (us 2 ((.d (.int .i64) (di i4)) :: ((.d (.int .i64) (di i4)) :: (us 1 ((.d (.int .i64) (di i3)) :: ((.d (.int .i64) (di i4)) :: ((.d .bool (db (ltI i4 i3))) :: ((.d (.int .i64) (di i4)) :: ((.d .str (dS s2)) :: ((.d (.slice 9) d1) :: ((.d (.int .i64) (di i4)) :: ((.cptr .str (ix d1.elems i4.toNat)) :: ((.d .str (ix d1.elems i4.toNat)) :: ((.d .bool (db (eqS s2 (ix d1.elems i4.toNat).s))) :: ((.d (.int .i64) (di i4)) :: (us 1 [])))))))))))))))))) []
  | .e1 d1 s2 i3 i4 => k (.exit 0) ((.d (.slice 9) d1) :: ((.d .str (dS s2)) :: (us 5 ((.d (.int .i64) (di i3)) :: ((.d (.int .i64) (di i4)) :: ((.d .bool (db (ltI i4 i3))) :: (us 9 []))))))) []
def ps2 : List PV := ((.d (.slice 9) .x) :: ((.d .str .str) :: (up 5 ((.d (.int .i64) (.int .i64)) :: ((.d (.int .i64) (.int .i64)) :: (up 10 []))))))
def qs2 : List PO := []
noncomputable def sum2 (M : Nat) : Sum := sumS [0, 1, 7, 8] ps2 qs2 [] of2 (st2 M) ex2 M
theorem sok2 (M : Nat) : SumOk (loopRd (e M) 89 2) (e M) (call (e M) 11) 89 0 (loopAt (e M) 89 2) (sum2 M) :=
  sumOk_st (T := tblOf (t89_0 M)) (n0 := 0) (lv := lv2) (t89_0_ok M) (by kernel_rfl) rfl (by intro ls s h; unfold of2 at h; (repeat' split at h) <;> simp at h; subst h; rfl) (by intro s; kernel_rfl) (by intro s; kernel_rfl) (by intro s nx k; kernel_rfl)
noncomputable def t89_1 (M : Nat) : List Ent := ⟨89, 11, 0, 2, sum2 M⟩ :: t89_0 M
theorem t89_1_ok (M : Nat) : AllOk (e M) (tblOf (t89_1 M)) := (t89_0_ok M).add ⟨89, 11, 0, 2, sum2 M⟩ (by kernel_rfl) (sok2 M)
def s (M : Nat) (p0 : D) (p1 : ByteArray) : Option D :=
  (goS (st2 M) M ⟨p0, p1, (nI p0.elems.length), 0⟩ fun x => match x with | .e0 d1 s2 i3 i4 => (some (di i4)) | .e1 d1 s2 i3 i4 => (some (di (-1))))
theorem run (M : Nat) (p0 : D) (p1 : ByteArray) : callS (e M) (tblOf (t89_1 M)) 12 (.fn 89) [.d (.slice 9) p0, .d .str (dS p1)] [] (fun v H => finish ty [3] v H) = s M p0 p1 := by kernel_rfl
noncomputable abbrev t (M : Nat) : List Ent := t89_1 M
theorem t_ok (M : Nat) : AllOk (e M) (tblOf (t M)) := t89_1_ok M
def c : Con := { run := fun ds => match ds with | [p0, p1] => s FUEL p0 p1.s | _ => none, fresh := false, plain := true }
theorem fun_at : Tryd.prog.funcs[89]? = some Tryd.f89 := by kernel_rfl
theorem params : Tryd.f89.params.toList.map ty = [(.slice 9), .str] := by kernel_rfl
theorem results : Tryd.f89.resultTypes.toList = [3] := by kernel_rfl
theorem flat : Tryd.f89.resultTypes.toList.all (fun t => K.flat ty 20 (ty t)) = true := by kernel_rfl
theorem ok : ConOk (89, c) := by
  intro fn hfn
  obtain rfl : Tryd.f89 = fn := Option.some.inj (fun_at.symm.trans hfn)
  refine contract_flat (n := 20) hgl (fun _ => flat) (fun ds r hh0 hr => ?_)
  rw [params] at hh0
  obtain ⟨p0, ds0, rfl, h0, hh1⟩ := hass_cons hh0
  obtain ⟨p1, ds1, rfl, h1, hh2⟩ := hass_cons hh1
  obtain ⟨p1, rfl⟩ := has_str h1
  obtain rfl := hass_nil hh2
  refine ⟨e FUEL, DEPTH, tblOf (t FUEL), envOk allNil allNil, rfl, t_ok FUEL, ?_⟩
  rw [params, results]
  exact (run FUEL p0 p1).trans hr
end F89
namespace F84
def cons : List (Nat × Con) := [(89, F89.c)]
def exts : List (Nat × Ext) := []
def h : List (Nat × Nat × Hint) := []
noncomputable def e (M : Nat) : Env := env cons exts h M
noncomputable def t84_0 (_ : Nat) : List Ent := []
theorem t84_0_ok (M : Nat) : AllOk (e M) (tblOf (t84_0 M)) := AllOk.nil
def s (M : Nat) (p0 : D) (p1 : ByteArray) : Option D :=
  (bd (F89.s FUEL p0 p1) fun r1 => (some (db (geI r1.i 0))))
theorem run (M : Nat) (p0 : D) (p1 : ByteArray) : callS (e M) (tblOf (t84_0 M)) 12 (.fn 84) [.d (.slice 9) p0, .d .str (dS p1)] [] (fun v H => finish ty [4] v H) = s M p0 p1 := by kernel_rfl
noncomputable abbrev t (M : Nat) : List Ent := t84_0 M
theorem t_ok (M : Nat) : AllOk (e M) (tblOf (t M)) := t84_0_ok M
def c : Con := { run := fun ds => match ds with | [p0, p1] => s FUEL p0 p1.s | _ => none, fresh := false, plain := true }
theorem fun_at : Tryd.prog.funcs[84]? = some Tryd.f84 := by kernel_rfl
theorem params : Tryd.f84.params.toList.map ty = [(.slice 9), .str] := by kernel_rfl
theorem results : Tryd.f84.resultTypes.toList = [4] := by kernel_rfl
theorem flat : Tryd.f84.resultTypes.toList.all (fun t => K.flat ty 20 (ty t)) = true := by kernel_rfl
theorem ok : ConOk (84, c) := by
  intro fn hfn
  obtain rfl : Tryd.f84 = fn := Option.some.inj (fun_at.symm.trans hfn)
  refine contract_flat (n := 20) hgl (fun _ => flat) (fun ds r hh0 hr => ?_)
  rw [params] at hh0
  obtain ⟨p0, ds0, rfl, h0, hh1⟩ := hass_cons hh0
  obtain ⟨p1, ds1, rfl, h1, hh2⟩ := hass_cons hh1
  obtain ⟨p1, rfl⟩ := has_str h1
  obtain rfl := hass_nil hh2
  refine ⟨e FUEL, DEPTH, tblOf (t FUEL), envOk (allCons F89.ok allNil) allNil, rfl, t_ok FUEL, ?_⟩
  rw [params, results]
  exact (run FUEL p0 p1).trans hr
end F84
namespace F109
def cons : List (Nat × Con) := [(115, decodeC)]
def exts : List (Nat × Ext) := []
def h : List (Nat × Nat × Hint) := []
noncomputable def e (M : Nat) : Env := env cons exts h M
noncomputable def t109_0 (_ : Nat) : List Ent := []
theorem t109_0_ok (M : Nat) : AllOk (e M) (tblOf (t109_0 M)) := AllOk.nil
def s (M : Nat) (p0 : ByteArray) (p1 : Int) (p2 : Int) : Option D :=
  (cond (neI p2 65533) (some (db false)) (cond ((leI 0 p1) && (leI p1 (nI p0.size)) && (leI (nI p0.size) (nI p0.size)) && (leI (nI p0.size) (nI p0.size))) (some (db (ltI ((Lib.decodeGo (p0.extract p1.toNat p0.size)).2 : Int) 2))) none))
theorem run (M : Nat) (p0 : ByteArray) (p1 : Int) (p2 : Int) : callS (e M) (tblOf (t109_0 M)) 12 (.fn 109) [.d .str (dS p0), .d (.int .i64) (di p1), .d (.int .i32) (D.int .i32 p2)] [] (fun v H => finish ty [4] v H) = s M p0 p1 p2 := by kernel_rfl
noncomputable abbrev t (M : Nat) : List Ent := t109_0 M
theorem t_ok (M : Nat) : AllOk (e M) (tblOf (t M)) := t109_0_ok M
def c : Con := { run := fun ds => match ds with | [p0, p1, p2] => s FUEL p0.s p1.i p2.i | _ => none, fresh := false, plain := true }
theorem fun_at : Tryd.prog.funcs[109]? = some Tryd.f109 := by kernel_rfl
theorem params : Tryd.f109.params.toList.map ty = [.str, (.int .i64), (.int .i32)] := by kernel_rfl
theorem results : Tryd.f109.resultTypes.toList = [4] := by kernel_rfl
theorem flat : Tryd.f109.resultTypes.toList.all (fun t => K.flat ty 20 (ty t)) = true := by kernel_rfl
theorem ok : ConOk (109, c) := by
  intro fn hfn
  obtain rfl : Tryd.f109 = fn := Option.some.inj (fun_at.symm.trans hfn)
  refine contract_flat (n := 20) hgl (fun _ => flat) (fun ds r hh0 hr => ?_)
  rw [params] at hh0
  obtain ⟨p0, ds0, rfl, h0, hh1⟩ := hass_cons hh0
  obtain ⟨p0, rfl⟩ := has_str h0
  obtain ⟨p1, ds1, rfl, h1, hh2⟩ := hass_cons hh1
  obtain ⟨p1, rfl⟩ := has_int h1
  obtain ⟨p2, ds2, rfl, h2, hh3⟩ := hass_cons hh2
  obtain ⟨p2, rfl⟩ := has_int h2
  obtain rfl := hass_nil hh3
  refine ⟨e FUEL, DEPTH, tblOf (t FUEL), envOk (allCons decode_ok allNil) allNil, rfl, t_ok FUEL, ?_⟩
  rw [params, results]
  exact (run FUEL p0 p1 p2).trans hr
end F109
namespace F102
def cons : List (Nat × Con) := [(109, F109.c)]
def exts : List (Nat × Ext) := []
def h : List (Nat × Nat × Hint) := [(102, 3, { live := [0, 3, 7], rows := [(3, 21)], own := false, inpl := false })]
noncomputable def e (M : Nat) : Env := env cons exts h M
noncomputable def t102_0 (_ : Nat) : List Ent := []
theorem t102_0_ok (M : Nat) : AllOk (e M) (tblOf (t102_0 M)) := AllOk.nil
structure S3 where
  s1 : ByteArray
  n2 : Nat
  n3 : Nat
  s4 : ByteArray
  n5 : Nat
  b6 : Bool
  l7 : (List D)
inductive X3 where
  | e0 (s1 : ByteArray) (n2 : Nat) (n3 : Nat) (s4 : ByteArray) (n5 : Nat) (b6 : Bool) (l7 : (List D))
def st3 (M : Nat) : S3 → (S3 → Option D) → (X3 → Option D) → Option D
  | ⟨s1, n2, n3, s4, n5, b6, l7⟩, rec, K => (cond (decide (n5 < s4.size)) (bd (F109.s FUEL s1 (nI n5) ((Utf8.decode s4 n5).1 : Int)) fun r8 => (cond r8.b (cond (inb (nI n5) s1.size) (cond (mx (n3 + 1)) (rec ⟨s1, 0, (n3 + 1), s4, (n5 + (Utf8.decode s4 n5).2), (b6 || true), (ap ((l7.drop n2).take n3) [(D.int .i32 (ad .i32 1114112 (cv .i32 (byteAt s1 n5))))])⟩) none) none) (cond (mx (n3 + 1)) (rec ⟨s1, 0, (n3 + 1), s4, (n5 + (Utf8.decode s4 n5).2), (b6 || true), (ap ((l7.drop n2).take n3) [(D.int .i32 ((Utf8.decode s4 n5).1 : Int))])⟩) none))) (K (.e0 s1 n2 n3 s4 n5 b6 l7)))
def lv3 : S3 → List Leaf
  | ⟨s1, n2, n3, s4, n5, b6, l7⟩ => [.s s1, .n n2, .n n3, .s s4, .n n5, .b b6, .l l7]
def of3 : List Leaf → Option S3
  | [.s s1, .n n2, .n n3, .s s4, .n n5, .b b6, .l l7] => some ⟨s1, n2, n3, s4, n5, b6, l7⟩
  | _ => none
def ex3 (k : Kont) : X3 → Option D
  | .e0 s1 n2 n3 s4 n5 b6 l7 => k (.exit 0) ((.d .str (dS s1)) :: (us 2 ((.sref 1 n2 n3) :: (us 3 ((.iter 0) :: ((.tup [(.d .bool (db false))]) :: ((.d .bool (db false)) :: (us 16 [])))))))) [(.iter s4 n5), (.row 21 true b6 l7)]
def ps3 : List PV := ((.d .str .str) :: (up 2 ((.sref 1) :: (up 3 ((.iter 0) :: (up 18 []))))))
def qs3 : List PO := [.iter, (.row 21 true)]
noncomputable def sum3 (M : Nat) : Sum := sumS [0, 3, 7] ps3 qs3 [(3, 1)] of3 (st3 M) ex3 M
theorem sok3 (M : Nat) : SumOk (loopRd (e M) 102 3) (e M) (call (e M) 11) 102 0 (loopAt (e M) 102 3) (sum3 M) :=
  sumOk_st (T := tblOf (t102_0 M)) (n0 := 2) (lv := lv3) (t102_0_ok M) (by kernel_rfl) rfl (by intro ls s h; unfold of3 at h; (repeat' split at h) <;> simp at h; subst h; rfl) (by intro s; kernel_rfl) (by intro s; kernel_rfl) (by intro s nx k; kernel_rfl)
noncomputable def t102_1 (M : Nat) : List Ent := ⟨102, 11, 0, 3, sum3 M⟩ :: t102_0 M
theorem t102_1_ok (M : Nat) : AllOk (e M) (tblOf (t102_1 M)) := (t102_0_ok M).add ⟨102, 11, 0, 3, sum3 M⟩ (by kernel_rfl) (sok3 M)
def s (M : Nat) (p0 : ByteArray) : Option D :=
  (goS (st3 M) M ⟨p0, 0, 0, p0, 0, false, []⟩ fun x => match x with | .e0 s1 n2 n3 s4 n5 b6 l7 => (cond ((decide (n3 = l7.length)) && (decide (n2 = 0))) (some (.slice b6 l7)) none))
theorem run (M : Nat) (p0 : ByteArray) : callS (e M) (tblOf (t102_1 M)) 12 (.fn 102) [.d .str (dS p0)] [] (fun v H => finishFresh ty [145] v H) = s M p0 := by kernel_rfl
noncomputable abbrev t (M : Nat) : List Ent := t102_1 M
theorem t_ok (M : Nat) : AllOk (e M) (tblOf (t M)) := t102_1_ok M
def c : Con := { run := fun ds => match ds with | [p0] => s FUEL p0.s | _ => none, fresh := true, plain := false }
theorem fun_at : Tryd.prog.funcs[102]? = some Tryd.f102 := by kernel_rfl
theorem params : Tryd.f102.params.toList.map ty = [.str] := by kernel_rfl
theorem results : Tryd.f102.resultTypes.toList = [145] := by kernel_rfl
theorem ok : ConOk (102, c) := by
  intro fn hfn
  obtain rfl : Tryd.f102 = fn := Option.some.inj (fun_at.symm.trans hfn)
  refine contract_of_fresh hgl rfl rfl (fun ds r hh0 hr => ?_)
  rw [params] at hh0
  obtain ⟨p0, ds0, rfl, h0, hh1⟩ := hass_cons hh0
  obtain ⟨p0, rfl⟩ := has_str h0
  obtain rfl := hass_nil hh1
  refine ⟨e FUEL, DEPTH, tblOf (t FUEL), envOk (allCons F109.ok allNil) allNil, rfl, t_ok FUEL, ?_⟩
  rw [params, results]
  exact (run FUEL p0).trans hr
end F102
namespace F77
def cons : List (Nat × Con) := [(102, F102.c)]
def exts : List (Nat × Ext) := []
def h : List (Nat × Nat × Hint) := [(77, 3, { live := [5, 6, 13, 14, 15], rows := [], own := false, inpl := false })]
noncomputable def e (M : Nat) : Env := env cons exts h M
noncomputable def t77_0 (_ : Nat) : List Ent := []
theorem t77_0_ok (M : Nat) : AllOk (e M) (tblOf (t77_0 M)) := AllOk.nil
structure S3 where
  n3 : Nat
  n4 : Nat
  n5 : Nat
  n6 : Nat
  n7 : Nat
  n8 : Nat
  i9 : Int
  i10 : Int
  b11 : Bool
  l12 : (List D)
  b13 : Bool
  l14 : (List D)
inductive X3 where
  | e0 (n3 : Nat) (n4 : Nat) (n5 : Nat) (n6 : Nat) (n7 : Nat) (n8 : Nat) (i9 : Int) (i10 : Int) (b11 : Bool) (l12 : (List D)) (b13 : Bool) (l14 : (List D))
  | e1 (n3 : Nat) (n4 : Nat) (n5 : Nat) (n6 : Nat) (n7 : Nat) (n8 : Nat) (i9 : Int) (i10 : Int) (b11 : Bool) (l12 : (List D)) (b13 : Bool) (l14 : (List D))
  | e2 (n3 : Nat) (n4 : Nat) (n5 : Nat) (n6 : Nat) (n7 : Nat) (n8 : Nat) (i9 : Int) (i10 : Int) (b11 : Bool) (l12 : (List D)) (b13 : Bool) (l14 : (List D))
def st3 (M : Nat) : S3 → (S3 → Option D) → (X3 → Option D) → Option D
  | ⟨n3, n4, n5, n6, n7, n8, i9, i10, b11, l12, b13, l14⟩, rec, K => (cond (ltI i10 i9) (cond (inb i10 n8) (cond (geI i10 (nI n6)) (K (.e0 n3 n4 n5 n6 n7 n8 i9 i10 b11 l12 b13 l14)) (cond (inb i10 n6) (cond (neI (ix l12 (n7 + i10.toNat)).i (ix l14 (n5 + i10.toNat)).i) (cond (inb i10 n6) (K (.e1 n3 n4 n5 n6 n7 n8 i9 i10 b11 l12 b13 l14)) none) (rec ⟨n3, n4, n5, n6, n7, n8, i9, (ad .i64 i10 1), b11, l12, b13, l14⟩)) none)) none) (K (.e2 n3 n4 n5 n6 n7 n8 i9 i10 b11 l12 b13 l14)))
def lv3 : S3 → List Leaf
  | ⟨n3, n4, n5, n6, n7, n8, i9, i10, b11, l12, b13, l14⟩ => [.n n3, .n n4, .n n5, .n n6, .n n7, .n n8, .i i9, .i i10, .b b11, .l l12, .b b13, .l l14]
def of3 : List Leaf → Option S3
  | [.n n3, .n n4, .n n5, .n n6, .n n7, .n n8, .i i9, .i i10, .b b11, .l l12, .b b13, .l l14] => some ⟨n3, n4, n5, n6, n7, n8, i9, i10, b11, l12, b13, l14⟩
  | _ => none
def ex3 (k : Kont) : X3 → Option D
  | .e0 n3 n4 n5 n6 n7 n8 i9 i10 b11 l12 b13 l14 => k .ret (us 4 ((.d .bool (db false)) :: ((.sref 0 n3 n4) :: ((.sref 1 n5 n6) :: ((.d (.int .i64) (di i10)) :: ((.d (.int .i32) (ix l12 (n7 + i10.toNat))) :: (us 4 ((.sref 0 n7 n8) :: ((.d (.int .i64) (di i9)) :: ((.d (.int .i64) (di i10)) :: ((.d .bool (db (ltI i10 i9))) :: ((.d (.int .i64) (di i10)) :: ((.ptr 0 [(n7 + i10.toNat)] (.int .i32)) :: ((.d (.int .i32) (ix l12 (n7 + i10.toNat))) :: ((.d (.int .i64) (di i10)) :: ((.sref 1 n5 n6) :: ((.d (.int .i64) (di (nI n6))) :: ((.d .bool (db (geI i10 (nI n6)))) :: (us 18 []))))))))))))))))))) [(.row 21 true b11 l12), (.row 21 true b13 l14)]
  | .e1 n3 n4 n5 n6 n7 n8 i9 i10 b11 l12 b13 l14 => k .ret (us 4 ((.d .bool (db (ltI (ix l12 (n7 + i10.toNat)).i (ix l14 (n5 + i10.toNat)).i))) :: ((.sref 0 n3 n4) :: ((.sref 1 n5 n6) :: ((.d (.int .i64) (di i10)) :: ((.d (.int .i32) (ix l12 (n7 + i10.toNat))) :: (us 4 ((.sref 0 n7 n8) :: ((.d (.int .i64) (di i9)) :: ((.d (.int .i64) (di i10)) :: ((.d .bool (db (ltI i10 i9))) :: ((.d (.int .i64) (di i10)) :: ((.ptr 0 [(n7 + i10.toNat)] (.int .i32)) :: ((.d (.int .i32) (ix l12 (n7 + i10.toNat))) :: ((.d (.int .i64) (di i10)) :: ((.sref 1 n5 n6) :: ((.d (.int .i64) (di (nI n6))) :: ((.d .bool (db (geI i10 (nI n6)))) :: ((.d (.int .i32) (ix l12 (n7 + i10.toNat))) :: ((.sref 1 n5 n6) :: ((.d (.int .i64) (di i10)) :: ((.ptr 1 [(n5 + i10.toNat)] (.int .i32)) :: ((.d (.int .i32) (ix l14 (n5 + i10.toNat))) :: ((.d .bool (db (neI (ix l12 (n7 + i10.toNat)).i (ix l14 (n5 + i10.toNat)).i))) :: ((.d (.int .i32) (ix l12 (n7 + i10.toNat))) :: ((.sref 1 n5 n6) :: ((.d (.int .i64) (di i10)) :: ((.ptr 1 [(n5 + i10.toNat)] (.int .i32)) :: ((.d (.int .i32) (ix l14 (n5 + i10.toNat))) :: ((.d .bool (db (ltI (ix l12 (n7 + i10.toNat)).i (ix l14 (n5 + i10.toNat)).i))) :: (us 6 []))))))))))))))))))))))))))))))) [(.row 21 true b11 l12), (.row 21 true b13 l14)]
  | .e2 n3 n4 n5 n6 n7 n8 i9 i10 b11 l12 b13 l14 => k (.exit 0) (us 5 ((.sref 0 n3 n4) :: ((.sref 1 n5 n6) :: (us 6 ((.sref 0 n7 n8) :: ((.d (.int .i64) (di i9)) :: ((.d (.int .i64) (di i10)) :: ((.d .bool (db (ltI i10 i9))) :: (us 25 []))))))))) [(.row 21 true b11 l12), (.row 21 true b13 l14)]
def ps3 : List PV := (up 5 ((.sref 0) :: ((.sref 1) :: (up 6 ((.sref 0) :: ((.d (.int .i64) (.int .i64)) :: ((.d (.int .i64) (.int .i64)) :: (up 26 []))))))))
def qs3 : List PO := [(.row 21 true), (.row 21 true)]
noncomputable def sum3 (M : Nat) : Sum := sumS [5, 6, 13, 14, 15] ps3 qs3 [] of3 (st3 M) ex3 M
theorem sok3 (M : Nat) : SumOk (loopRd (e M) 77 3) (e M) (call (e M) 11) 77 0 (loopAt (e M) 77 3) (sum3 M) :=
  sumOk_st (T := tblOf (t77_0 M)) (n0 := 2) (lv := lv3) (t77_0_ok M) (by kernel_rfl) rfl (by intro ls s h; unfold of3 at h; (repeat' split at h) <;> simp at h; subst h; rfl) (by intro s; kernel_rfl) (by intro s; kernel_rfl) (by intro s nx k; kernel_rfl)
noncomputable def t77_1 (M : Nat) : List Ent := ⟨77, 11, 0, 3, sum3 M⟩ :: t77_0 M
theorem t77_1_ok (M : Nat) : AllOk (e M) (tblOf (t77_1 M)) := (t77_0_ok M).add ⟨77, 11, 0, 3, sum3 M⟩ (by kernel_rfl) (sok3 M)
def s (M : Nat) (p0 : ByteArray) (p1 : ByteArray) : Option D :=
  (bd (F102.s FUEL p0) fun r1 => (bd (F102.s FUEL p1) fun r2 => (goS (st3 M) M ⟨0, r1.elems.length, 0, r2.elems.length, 0, r1.elems.length, (nI r1.elems.length), 0, r1.nn, r1.elems, r2.nn, r2.elems⟩ fun x => match x with | .e0 n3 n4 n5 n6 n7 n8 i9 i10 b11 l12 b13 l14 => (some (db false)) | .e1 n3 n4 n5 n6 n7 n8 i9 i10 b11 l12 b13 l14 => (some (db (ltI (ix l12 (n7 + i10.toNat)).i (ix l14 (n5 + i10.toNat)).i))) | .e2 n3 n4 n5 n6 n7 n8 i9 i10 b11 l12 b13 l14 => (some (db (ltI (nI n4) (nI n6)))))))
theorem run (M : Nat) (p0 : ByteArray) (p1 : ByteArray) : callS (e M) (tblOf (t77_1 M)) 12 (.fn 77) [.d .str (dS p0), .d .str (dS p1)] [] (fun v H => finish ty [4] v H) = s M p0 p1 := by kernel_rfl
noncomputable abbrev t (M : Nat) : List Ent := t77_1 M
theorem t_ok (M : Nat) : AllOk (e M) (tblOf (t M)) := t77_1_ok M
def c : Con := { run := fun ds => match ds with | [p0, p1] => s FUEL p0.s p1.s | _ => none, fresh := false, plain := true }
theorem fun_at : Tryd.prog.funcs[77]? = some Tryd.f77 := by kernel_rfl
theorem params : Tryd.f77.params.toList.map ty = [.str, .str] := by kernel_rfl
theorem results : Tryd.f77.resultTypes.toList = [4] := by kernel_rfl
theorem flat : Tryd.f77.resultTypes.toList.all (fun t => K.flat ty 20 (ty t)) = true := by kernel_rfl
theorem ok : ConOk (77, c) := by
  intro fn hfn
  obtain rfl : Tryd.f77 = fn := Option.some.inj (fun_at.symm.trans hfn)
  refine contract_flat (n := 20) hgl (fun _ => flat) (fun ds r hh0 hr => ?_)
  rw [params] at hh0
  obtain ⟨p0, ds0, rfl, h0, hh1⟩ := hass_cons hh0
  obtain ⟨p0, rfl⟩ := has_str h0
  obtain ⟨p1, ds1, rfl, h1, hh2⟩ := hass_cons hh1
  obtain ⟨p1, rfl⟩ := has_str h1
  obtain rfl := hass_nil hh2
  refine ⟨e FUEL, DEPTH, tblOf (t FUEL), envOk (allCons F102.ok allNil) allNil, rfl, t_ok FUEL, ?_⟩
  rw [params, results]
  exact (run FUEL p0 p1).trans hr
end F77
namespace F86
end F86
namespace F88
def cons : List (Nat × Con) := []
def exts : List (Nat × Ext) := []
def h : List (Nat × Nat × Hint) := []
noncomputable def e (M : Nat) : Env := env cons exts h M
noncomputable def t88_0 (_ : Nat) : List Ent := []
theorem t88_0_ok (M : Nat) : AllOk (e M) (tblOf (t88_0 M)) := AllOk.nil
def s (M : Nat) (p0 : D) : Option D :=
  (cond (!p0.nn) (some (.slice false [])) (cond (mx p0.elems.length) (cond ((decide (p0.elems.length = p0.elems.length)) && true) (some (.slice true p0.elems)) none) none))
theorem run (M : Nat) (p0 : D) : callS (e M) (tblOf (t88_0 M)) 12 (.fn 88) [.d (.slice 9) p0] [] (fun v H => finishFresh ty [40] v H) = s M p0 := by kernel_rfl
noncomputable abbrev t (M : Nat) : List Ent := t88_0 M
theorem t_ok (M : Nat) : AllOk (e M) (tblOf (t M)) := t88_0_ok M
def c : Con := { run := fun ds => match ds with | [p0] => s FUEL p0 | _ => none, fresh := true, plain := false }
theorem fun_at : Tryd.prog.funcs[88]? = some Tryd.f88 := by kernel_rfl
theorem params : Tryd.f88.params.toList.map ty = [(.slice 9)] := by kernel_rfl
theorem results : Tryd.f88.resultTypes.toList = [40] := by kernel_rfl
theorem ok : ConOk (88, c) := by
  intro fn hfn
  obtain rfl : Tryd.f88 = fn := Option.some.inj (fun_at.symm.trans hfn)
  refine contract_of_fresh hgl rfl rfl (fun ds r hh0 hr => ?_)
  rw [params] at hh0
  obtain ⟨p0, ds0, rfl, h0, hh1⟩ := hass_cons hh0
  obtain rfl := hass_nil hh1
  refine ⟨e FUEL, DEPTH, tblOf (t FUEL), envOk allNil allNil, rfl, t_ok FUEL, ?_⟩
  rw [params, results]
  exact (run FUEL p0).trans hr
end F88
namespace F63
def cons : List (Nat × Con) := [(49, F49.c), (77, F77.c), (84, F84.c), (88, F88.c)]
def exts : List (Nat × Ext) := [(87, insertX 9)]
def h : List (Nat × Nat × Hint) := [(63, 12, { live := [], rows := [], own := true, inpl := false }), (85, 2, { live := [0, 1, 7, 8], rows := [], own := false, inpl := false })]
noncomputable def e (M : Nat) : Env := env cons exts h M
noncomputable def t63_0 (_ : Nat) : List Ent := []
theorem t63_0_ok (M : Nat) : AllOk (e M) (tblOf (t63_0 M)) := AllOk.nil
structure S85_2 where
  d3 : D
  s4 : ByteArray
  i5 : Int
  i6 : Int
  d7 : D
  i8 : Int
  s9 : ByteArray
  s10 : ByteArray
  b11 : Bool
  i12 : Int
  b13 : Bool
  l14 : (List D)
inductive X85_2 where
  | e0 (d3 : D) (s4 : ByteArray) (i5 : Int) (i6 : Int) (d7 : D) (i8 : Int) (s9 : ByteArray) (s10 : ByteArray) (b11 : Bool) (i12 : Int) (b13 : Bool) (l14 : (List D)) (r15 : D)
  | e1 (d3 : D) (s4 : ByteArray) (i5 : Int) (i6 : Int) (d7 : D) (i8 : Int) (s9 : ByteArray) (s10 : ByteArray) (b11 : Bool) (i12 : Int) (b13 : Bool) (l14 : (List D))
def st85_2 (M : Nat) : S85_2 → (S85_2 → Option D) → (X85_2 → Option D) → Option D
  | ⟨d3, s4, i5, i6, d7, i8, s9, s10, b11, i12, b13, l14⟩, rec, K => (cond (ltI i6 i5) (cond (inb i6 d3.elems.length) (bd (F77.s FUEL (ix d3.elems i6.toNat).s s4) fun r15 => (cond (!r15.b) (K (.e0 d3 s4 i5 i6 d7 i8 s9 s10 b11 i12 b13 l14 r15)) (rec ⟨d3, s4, i5, (ad .i64 i6 1), d7, i8, s9, s10, b11, i12, b13, l14⟩))) none) (K (.e1 d3 s4 i5 i6 d7 i8 s9 s10 b11 i12 b13 l14)))
def lv85_2 : S85_2 → List Leaf
  | ⟨d3, s4, i5, i6, d7, i8, s9, s10, b11, i12, b13, l14⟩ => [.d d3, .s s4, .i i5, .i i6, .d d7, .i i8, .s s9, .s s10, .b b11, .i i12, .b b13, .l l14]
def of85_2 : List Leaf → Option S85_2
  | [.d d3, .s s4, .i i5, .i i6, .d d7, .i i8, .s s9, .s s10, .b b11, .i i12, .b b13, .l l14] => some ⟨d3, s4, i5, i6, d7, i8, s9, s10, b11, i12, b13, l14⟩
  | _ => none
def ex85_2 (k : Kont) : X85_2 → Option D
  | .e0 d3 s4 i5 i6 d7 i8 s9 s10 b11 i12 b13 l14 r15 => k .ret ((.d (.slice 9) d3) :: ((.func (.func 86) [(.d .str (dS s4))] []) :: (us 2 ((.d (.int .i64) (di i6)) :: ((.d (.int .i64) (di i6)) :: (us 1 ((.d (.int .i64) (di i5)) :: ((.d (.int .i64) (di i6)) :: ((.d .bool (db (ltI i6 i5))) :: ((.d (.int .i64) (di i6)) :: ((.func (.func 86) [(.d .str (dS s4))] []) :: ((.d (.slice 9) d3) :: ((.d (.int .i64) (di i6)) :: ((.cptr .str (ix d3.elems i6.toNat)) :: ((.d .str (ix d3.elems i6.toNat)) :: ((.d .bool (db (!r15.b))) :: ((.d (.int .i64) (di i6)) :: (us 1 [])))))))))))))))))) [(.var (.struct [3, 9, 9, 4, 3, 40]) (.d (.struct [3, 9, 9, 4, 3, 40]) d7)), (.var (.struct [3, 9, 9, 4, 3, 40]) (.d (.struct [3, 9, 9, 4, 3, 40]) (da [(di i8), (dS s9), (dS s10), (db b11), (di i12), (dl b13 l14)])))]
  | .e1 d3 s4 i5 i6 d7 i8 s9 s10 b11 i12 b13 l14 => k (.exit 0) ((.d (.slice 9) d3) :: ((.func (.func 86) [(.d .str (dS s4))] []) :: (us 5 ((.d (.int .i64) (di i5)) :: ((.d (.int .i64) (di i6)) :: ((.d .bool (db (ltI i6 i5))) :: (us 9 []))))))) [(.var (.struct [3, 9, 9, 4, 3, 40]) (.d (.struct [3, 9, 9, 4, 3, 40]) d7)), (.var (.struct [3, 9, 9, 4, 3, 40]) (.d (.struct [3, 9, 9, 4, 3, 40]) (da [(di i8), (dS s9), (dS s10), (db b11), (di i12), (dl b13 l14)])))]
def ps85_2 : List PV := ((.d (.slice 9) .x) :: ((.func 86 [(.d .str .str)] []) :: (up 5 ((.d (.int .i64) (.int .i64)) :: ((.d (.int .i64) (.int .i64)) :: (up 10 []))))))
def qs85_2 : List PO := [(.var (.struct [3, 9, 9, 4, 3, 40]) (.d (.struct [3, 9, 9, 4, 3, 40]) .x)), (.var (.struct [3, 9, 9, 4, 3, 40]) (.d (.struct [3, 9, 9, 4, 3, 40]) (.agg [(.int .i64), .str, .str, .bool, (.int .i64), .slice])))]
noncomputable def sum85_2 (M : Nat) : Sum := sumS [0, 1, 7, 8] ps85_2 qs85_2 [] of85_2 (st85_2 M) ex85_2 M
theorem sok85_2 (M : Nat) : SumOk (loopRd (e M) 85 2) (e M) (call (e M) 10) 85 2 (loopAt (e M) 85 2) (sum85_2 M) :=
  sumOk_st (T := tblOf (t63_0 M)) (n0 := 2) (lv := lv85_2) (t63_0_ok M) (by kernel_rfl) rfl (by intro ls s h; unfold of85_2 at h; (repeat' split at h) <;> simp at h; subst h; rfl) (by intro s; kernel_rfl) (by intro s; kernel_rfl) (by intro s nx k; kernel_rfl)
noncomputable def t63_1 (M : Nat) : List Ent := ⟨85, 10, 2, 2, sum85_2 M⟩ :: t63_0 M
theorem t63_1_ok (M : Nat) : AllOk (e M) (tblOf (t63_1 M)) := (t63_0_ok M).add ⟨85, 10, 2, 2, sum85_2 M⟩ (by kernel_rfl) (sok85_2 M)
def s (M : Nat) (p0 : D) (p1 : ByteArray) : Option D :=
  (cond (!(p0.at 3).b) (some (D.tup [p0, (di 6)])) (bd (F49.s FUEL p1) fun r1 => (cond (!r1.b) (some (D.tup [p0, (di 2)])) (bd (F84.s FUEL (p0.at 5) p1) fun r2 => (cond r2.b (some (D.tup [p0, (di 4)])) (cond (geI (nI (p0.at 5).elems.length) 4) (some (D.tup [p0, (di 10)])) (goS (st85_2 M) M ⟨(p0.at 5), p1, (nI (p0.at 5).elems.length), 0, p0, 0, (bs []), (bs []), false, 0, false, []⟩ fun x => match x with | .e0 d3 s4 i5 i6 d7 i8 s9 s10 b11 i12 b13 l14 r15 => (cond (ltI i6 0) (bd (F88.s FUEL (d7.at 5)) fun r16 => (cond (true && true && true && (leI 0 (nI (d7.at 5).elems.length)) && (leI (nI (d7.at 5).elems.length) (nI r16.elems.length)) && (mx (r16.elems.length + 1))) (some (D.tup [(da [(d7.at 0), (d7.at 1), (d7.at 2), (d7.at 3), (d7.at 4), (dl true (((ap (ap (((r16.elems.drop 0).take r16.elems.length).take (d7.at 5).elems.length) [(dS p1)]) (((r16.elems.drop 0).take r16.elems.length).drop (d7.at 5).elems.length)).drop 0).take (r16.elems.length + 1)))]), (di 0)])) none)) (bd (F88.s FUEL (d7.at 5)) fun r17 => (cond (true && true && true && (leI 0 i6) && (leI i6 (nI r17.elems.length)) && (mx (r17.elems.length + 1))) (some (D.tup [(da [(d7.at 0), (d7.at 1), (d7.at 2), (d7.at 3), (d7.at 4), (dl true (((ap (ap (((r17.elems.drop 0).take r17.elems.length).take i6.toNat) [(dS p1)]) (((r17.elems.drop 0).take r17.elems.length).drop i6.toNat)).drop 0).take (r17.elems.length + 1)))]), (di 0)])) none))) | .e1 d3 s4 i5 i6 d7 i8 s9 s10 b11 i12 b13 l14 => (bd (F88.s FUEL (d7.at 5)) fun r18 => (cond (true && true && true && (leI 0 (nI (d7.at 5).elems.length)) && (leI (nI (d7.at 5).elems.length) (nI r18.elems.length)) && (mx (r18.elems.length + 1))) (some (D.tup [(da [(d7.at 0), (d7.at 1), (d7.at 2), (d7.at 3), (d7.at 4), (dl true (((ap (ap (((r18.elems.drop 0).take r18.elems.length).take (d7.at 5).elems.length) [(dS p1)]) (((r18.elems.drop 0).take r18.elems.length).drop (d7.at 5).elems.length)).drop 0).take (r18.elems.length + 1)))]), (di 0)])) none)))))))))
theorem run (M : Nat) (p0 : D) (p1 : ByteArray) : callS (e M) (tblOf (t63_1 M)) 12 (.fn 63) [.d (.struct [3, 9, 9, 4, 3, 40]) p0, .d .str (dS p1)] [] (fun v H => finish ty [42, 28] v H) = s M p0 p1 := by kernel_rfl
noncomputable abbrev t (M : Nat) : List Ent := t63_1 M
theorem t_ok (M : Nat) : AllOk (e M) (tblOf (t M)) := t63_1_ok M
def c : Con := { run := fun ds => match ds with | [p0, p1] => s FUEL p0 p1.s | _ => none, fresh := false, plain := false }
theorem fun_at : Tryd.prog.funcs[63]? = some Tryd.f63 := by kernel_rfl
theorem params : Tryd.f63.params.toList.map ty = [(.struct [3, 9, 9, 4, 3, 40]), .str] := by kernel_rfl
theorem results : Tryd.f63.resultTypes.toList = [42, 28] := by kernel_rfl
theorem ok : ConOk (63, c) := by
  intro fn hfn
  obtain rfl : Tryd.f63 = fn := Option.some.inj (fun_at.symm.trans hfn)
  refine contract_flat (n := 20) hgl (fun h => by simp at h) (fun ds r hh0 hr => ?_)
  rw [params] at hh0
  obtain ⟨p0, ds0, rfl, h0, hh1⟩ := hass_cons hh0
  obtain ⟨p1, ds1, rfl, h1, hh2⟩ := hass_cons hh1
  obtain ⟨p1, rfl⟩ := has_str h1
  obtain rfl := hass_nil hh2
  refine ⟨e FUEL, DEPTH, tblOf (t FUEL), envOk (allCons F49.ok (allCons F77.ok (allCons F84.ok (allCons F88.ok allNil)))) (allCons insert_ok allNil), rfl, t_ok FUEL, ?_⟩
  rw [params, results]
  exact (run FUEL p0 p1).trans hr
end F63
namespace F65
def cons : List (Nat × Con) := [(88, F88.c), (89, F89.c)]
def exts : List (Nat × Ext) := []
def h : List (Nat × Nat × Hint) := [(90, 5, { live := [], rows := [], own := false, inpl := true })]
noncomputable def e (M : Nat) : Env := env cons exts h M
noncomputable def t65_0 (_ : Nat) : List Ent := []
theorem t65_0_ok (M : Nat) : AllOk (e M) (tblOf (t65_0 M)) := AllOk.nil
def s (M : Nat) (p0 : D) (p1 : ByteArray) : Option D :=
  (bd (F89.s FUEL (p0.at 5) p1) fun r1 => (cond (ltI r1.i 0) (some (D.tup [p0, (di 3)])) (bd (F88.s FUEL (p0.at 5)) fun r2 => (cond ((leI 0 r1.i) && (leI r1.i (ad .i64 r1.i 1)) && (leI (ad .i64 r1.i 1) (nI r2.elems.length)) && (leI (nI r2.elems.length) (nI r2.elems.length)) && (eqN (0 + r2.elems.length) r2.elems.length)) (cond (eqI r1.i (ad .i64 r1.i 1)) (some (D.tup [(da [(p0.at 0), (p0.at 1), (p0.at 2), (p0.at 3), (p0.at 4), (dl r2.nn ((r2.elems.drop 0).take r2.elems.length))]), (di 0)])) (cond (true && (leI 0 r1.i) && (leN (0 + (r1.i).toNat) r2.elems.length)) (cond ((leI 0 (ad .i64 r1.i 1)) && (leI (ad .i64 r1.i 1) (nI r2.elems.length)) && (leN (0 + r2.elems.length) r2.elems.length)) (cond (leN ((0 + ((r1.i).toNat - 0)) + ((r2.elems.drop (0 + (ad .i64 r1.i 1).toNat)).take (r2.elems.length - (ad .i64 r1.i 1).toNat)).length) r2.elems.length) (cond ((leI 0 (nI (((r1.i).toNat - 0) + ((r2.elems.drop (0 + (ad .i64 r1.i 1).toNat)).take (r2.elems.length - (ad .i64 r1.i 1).toNat)).length))) && (leI (nI (((r1.i).toNat - 0) + ((r2.elems.drop (0 + (ad .i64 r1.i 1).toNat)).take (r2.elems.length - (ad .i64 r1.i 1).toNat)).length)) (nI r2.elems.length)) && (leN (0 + r2.elems.length) (ap (ap (r2.elems.take (0 + ((r1.i).toNat - 0))) ((r2.elems.drop (0 + (ad .i64 r1.i 1).toNat)).take (r2.elems.length - (ad .i64 r1.i 1).toNat))) (r2.elems.drop ((0 + ((r1.i).toNat - 0)) + ((r2.elems.drop (0 + (ad .i64 r1.i 1).toNat)).take (r2.elems.length - (ad .i64 r1.i 1).toNat)).length))).length)) (some (D.tup [(da [(p0.at 0), (p0.at 1), (p0.at 2), (p0.at 3), (p0.at 4), (dl r2.nn (((ap (ap ((ap (ap (r2.elems.take (0 + ((r1.i).toNat - 0))) ((r2.elems.drop (0 + (ad .i64 r1.i 1).toNat)).take (r2.elems.length - (ad .i64 r1.i 1).toNat))) (r2.elems.drop ((0 + ((r1.i).toNat - 0)) + ((r2.elems.drop (0 + (ad .i64 r1.i 1).toNat)).take (r2.elems.length - (ad .i64 r1.i 1).toNat)).length))).take (0 + (((r1.i).toNat - 0) + ((r2.elems.drop (0 + (ad .i64 r1.i 1).toNat)).take (r2.elems.length - (ad .i64 r1.i 1).toNat)).length))) (rp (r2.elems.length - (((r1.i).toNat - 0) + ((r2.elems.drop (0 + (ad .i64 r1.i 1).toNat)).take (r2.elems.length - (ad .i64 r1.i 1).toNat)).length)) (dS (bs [])))) ((ap (ap (r2.elems.take (0 + ((r1.i).toNat - 0))) ((r2.elems.drop (0 + (ad .i64 r1.i 1).toNat)).take (r2.elems.length - (ad .i64 r1.i 1).toNat))) (r2.elems.drop ((0 + ((r1.i).toNat - 0)) + ((r2.elems.drop (0 + (ad .i64 r1.i 1).toNat)).take (r2.elems.length - (ad .i64 r1.i 1).toNat)).length))).drop ((0 + (((r1.i).toNat - 0) + ((r2.elems.drop (0 + (ad .i64 r1.i 1).toNat)).take (r2.elems.length - (ad .i64 r1.i 1).toNat)).length)) + (r2.elems.length - (((r1.i).toNat - 0) + ((r2.elems.drop (0 + (ad .i64 r1.i 1).toNat)).take (r2.elems.length - (ad .i64 r1.i 1).toNat)).length))))).drop 0).take (((r1.i).toNat - 0) + ((r2.elems.drop (0 + (ad .i64 r1.i 1).toNat)).take (r2.elems.length - (ad .i64 r1.i 1).toNat)).length)))]), (di 0)])) none) none) none) none)) none))))
theorem run (M : Nat) (p0 : D) (p1 : ByteArray) : callS (e M) (tblOf (t65_0 M)) 12 (.fn 65) [.d (.struct [3, 9, 9, 4, 3, 40]) p0, .d .str (dS p1)] [] (fun v H => finish ty [42, 28] v H) = s M p0 p1 := by kernel_rfl
noncomputable abbrev t (M : Nat) : List Ent := t65_0 M
theorem t_ok (M : Nat) : AllOk (e M) (tblOf (t M)) := t65_0_ok M
def c : Con := { run := fun ds => match ds with | [p0, p1] => s FUEL p0 p1.s | _ => none, fresh := false, plain := false }
theorem fun_at : Tryd.prog.funcs[65]? = some Tryd.f65 := by kernel_rfl
theorem params : Tryd.f65.params.toList.map ty = [(.struct [3, 9, 9, 4, 3, 40]), .str] := by kernel_rfl
theorem results : Tryd.f65.resultTypes.toList = [42, 28] := by kernel_rfl
theorem ok : ConOk (65, c) := by
  intro fn hfn
  obtain rfl : Tryd.f65 = fn := Option.some.inj (fun_at.symm.trans hfn)
  refine contract_flat (n := 20) hgl (fun h => by simp at h) (fun ds r hh0 hr => ?_)
  rw [params] at hh0
  obtain ⟨p0, ds0, rfl, h0, hh1⟩ := hass_cons hh0
  obtain ⟨p1, ds1, rfl, h1, hh2⟩ := hass_cons hh1
  obtain ⟨p1, rfl⟩ := has_str h1
  obtain rfl := hass_nil hh2
  refine ⟨e FUEL, DEPTH, tblOf (t FUEL), envOk (allCons F88.ok (allCons F89.ok allNil)) allNil, rfl, t_ok FUEL, ?_⟩
  rw [params, results]
  exact (run FUEL p0 p1).trans hr
end F65
namespace F44
def cons : List (Nat × Con) := []
def exts : List (Nat × Ext) := []
def h : List (Nat × Nat × Hint) := []
noncomputable def e (M : Nat) : Env := env cons exts h M
noncomputable def t44_0 (_ : Nat) : List Ent := []
theorem t44_0_ok (M : Nat) : AllOk (e M) (tblOf (t44_0 M)) := AllOk.nil
def s (M : Nat) (p0 : D) (p1 : Int) : Option D :=
  (cond (!(p0.at 3).b) (some (di 6)) (cond (ltI p1 (p0.at 4).i) (some (di 8)) (cond (gtI (nI (p0.at 5).elems.length) 0) (some (di 9)) (some (di 0)))))
theorem run (M : Nat) (p0 : D) (p1 : Int) : callS (e M) (tblOf (t44_0 M)) 12 (.fn 44) [.d (.struct [3, 9, 9, 4, 3, 40]) p0, .d (.int .i64) (di p1)] [] (fun v H => finish ty [28] v H) = s M p0 p1 := by kernel_rfl
noncomputable abbrev t (M : Nat) : List Ent := t44_0 M
theorem t_ok (M : Nat) : AllOk (e M) (tblOf (t M)) := t44_0_ok M
def c : Con := { run := fun ds => match ds with | [p0, p1] => s FUEL p0 p1.i | _ => none, fresh := false, plain := true }
theorem fun_at : Tryd.prog.funcs[44]? = some Tryd.f44 := by kernel_rfl
theorem params : Tryd.f44.params.toList.map ty = [(.struct [3, 9, 9, 4, 3, 40]), (.int .i64)] := by kernel_rfl
theorem results : Tryd.f44.resultTypes.toList = [28] := by kernel_rfl
theorem flat : Tryd.f44.resultTypes.toList.all (fun t => K.flat ty 20 (ty t)) = true := by kernel_rfl
theorem ok : ConOk (44, c) := by
  intro fn hfn
  obtain rfl : Tryd.f44 = fn := Option.some.inj (fun_at.symm.trans hfn)
  refine contract_flat (n := 20) hgl (fun _ => flat) (fun ds r hh0 hr => ?_)
  rw [params] at hh0
  obtain ⟨p0, ds0, rfl, h0, hh1⟩ := hass_cons hh0
  obtain ⟨p1, ds1, rfl, h1, hh2⟩ := hass_cons hh1
  obtain ⟨p1, rfl⟩ := has_int h1
  obtain rfl := hass_nil hh2
  refine ⟨e FUEL, DEPTH, tblOf (t FUEL), envOk allNil allNil, rfl, t_ok FUEL, ?_⟩
  rw [params, results]
  exact (run FUEL p0 p1).trans hr
end F44
namespace F29
end F29
namespace F16
end F16
namespace F14
end F14
namespace F53
def cons : List (Nat × Con) := []
def exts : List (Nat × Ext) := []
def h : List (Nat × Nat × Hint) := [(53, 4, { live := [0, 1, 12, 13], rows := [], own := false, inpl := false })]
noncomputable def e (M : Nat) : Env := env cons exts h M
noncomputable def t53_0 (_ : Nat) : List Ent := []
theorem t53_0_ok (M : Nat) : AllOk (e M) (tblOf (t53_0 M)) := AllOk.nil
structure S4 where
  d1 : D
  d2 : D
  i3 : Int
  i4 : Int
inductive X4 where
  | e0 (d1 : D) (d2 : D) (i3 : Int) (i4 : Int)
  | e1 (d1 : D) (d2 : D) (i3 : Int) (i4 : Int)
def st4 (M : Nat) : S4 → (S4 → Option D) → (X4 → Option D) → Option D
  | ⟨d1, d2, i3, i4⟩, rec, K => (cond (ltI i4 i3) (cond (inb i4 d1.elems.length) (cond (inb i4 d2.elems.length) (cond (!(eqS (ix d1.elems i4.toNat).s (ix d2.elems i4.toNat).s)) (K (.e0 d1 d2 i3 i4)) (rec ⟨d1, d2, i3, (ad .i64 i4 1)⟩)) none) none) (K (.e1 d1 d2 i3 i4)))
def lv4 : S4 → List Leaf
  | ⟨d1, d2, i3, i4⟩ => [.d d1, .d d2, .i i3, .i i4]
def of4 : List Leaf → Option S4
  | [.d d1, .d d2, .i i3, .i i4] => some ⟨d1, d2, i3, i4⟩
  | _ => none
def ex4 (k : Kont) : X4 → Option D
  | .e0 d1 d2 i3 i4 => k .ret ((.d (.slice 9) d1) :: ((.d (.slice 9) d2) :: (us 2 ((.d .bool (db false)) :: ((.d (.int .i64) (di i4)) :: (us 6 ((.d (.int .i64) (di i3)) :: ((.d (.int .i64) (di i4)) :: ((.d .bool (db (ltI i4 i3))) :: ((.d (.int .i64) (di i4)) :: ((.d (.slice 9) d1) :: ((.d (.int .i64) (di i4)) :: ((.cptr .str (ix d1.elems i4.toNat)) :: ((.d .str (ix d1.elems i4.toNat)) :: ((.d (.slice 9) d2) :: ((.d (.int .i64) (di i4)) :: ((.cptr .str (ix d2.elems i4.toNat)) :: ((.d .str (ix d2.elems i4.toNat)) :: ((.d .bool (db (!(eqS (ix d1.elems i4.toNat).s (ix d2.elems i4.toNat).s)))) :: (us 1 [])))))))))))))))))))) []
  | .e1 d1 d2 i3 i4 => k (.exit 0) ((.d (.slice 9) d1) :: ((.d (.slice 9) d2) :: (us 10 ((.d (.int .i64) (di i3)) :: ((.d (.int .i64) (di i4)) :: ((.d .bool (db (ltI i4 i3))) :: (us 11 []))))))) []
def ps4 : List PV := ((.d (.slice 9) .x) :: ((.d (.slice 9) .x) :: (up 10 ((.d (.int .i64) (.int .i64)) :: ((.d (.int .i64) (.int .i64)) :: (up 12 []))))))
def qs4 : List PO := []
noncomputable def sum4 (M : Nat) : Sum := sumS [0, 1, 12, 13] ps4 qs4 [] of4 (st4 M) ex4 M
theorem sok4 (M : Nat) : SumOk (loopRd (e M) 53 4) (e M) (call (e M) 11) 53 0 (loopAt (e M) 53 4) (sum4 M) :=
  sumOk_st (T := tblOf (t53_0 M)) (n0 := 0) (lv := lv4) (t53_0_ok M) (by kernel_rfl) rfl (by intro ls s h; unfold of4 at h; (repeat' split at h) <;> simp at h; subst h; rfl) (by intro s; kernel_rfl) (by intro s; kernel_rfl) (by intro s nx k; kernel_rfl)
noncomputable def t53_1 (M : Nat) : List Ent := ⟨53, 11, 0, 4, sum4 M⟩ :: t53_0 M
theorem t53_1_ok (M : Nat) : AllOk (e M) (tblOf (t53_1 M)) := (t53_0_ok M).add ⟨53, 11, 0, 4, sum4 M⟩ (by kernel_rfl) (sok4 M)
def s (M : Nat) (p0 : D) (p1 : D) : Option D :=
  (cond (neI (nI p0.elems.length) (nI p1.elems.length)) (some (db false)) (goS (st4 M) M ⟨p0, p1, (nI p0.elems.length), 0⟩ fun x => match x with | .e0 d1 d2 i3 i4 => (some (db false)) | .e1 d1 d2 i3 i4 => (some (db true))))
theorem run (M : Nat) (p0 : D) (p1 : D) : callS (e M) (tblOf (t53_1 M)) 12 (.fn 53) [.d (.slice 9) p0, .d (.slice 9) p1] [] (fun v H => finish ty [4] v H) = s M p0 p1 := by kernel_rfl
noncomputable abbrev t (M : Nat) : List Ent := t53_1 M
theorem t_ok (M : Nat) : AllOk (e M) (tblOf (t M)) := t53_1_ok M
def c : Con := { run := fun ds => match ds with | [p0, p1] => s FUEL p0 p1 | _ => none, fresh := false, plain := true }
theorem fun_at : Tryd.prog.funcs[53]? = some Tryd.f53 := by kernel_rfl
theorem params : Tryd.f53.params.toList.map ty = [(.slice 9), (.slice 9)] := by kernel_rfl
theorem results : Tryd.f53.resultTypes.toList = [4] := by kernel_rfl
theorem flat : Tryd.f53.resultTypes.toList.all (fun t => K.flat ty 20 (ty t)) = true := by kernel_rfl
theorem ok : ConOk (53, c) := by
  intro fn hfn
  obtain rfl : Tryd.f53 = fn := Option.some.inj (fun_at.symm.trans hfn)
  refine contract_flat (n := 20) hgl (fun _ => flat) (fun ds r hh0 hr => ?_)
  rw [params] at hh0
  obtain ⟨p0, ds0, rfl, h0, hh1⟩ := hass_cons hh0
  obtain ⟨p1, ds1, rfl, h1, hh2⟩ := hass_cons hh1
  obtain rfl := hass_nil hh2
  refine ⟨e FUEL, DEPTH, tblOf (t FUEL), envOk allNil allNil, rfl, t_ok FUEL, ?_⟩
  rw [params, results]
  exact (run FUEL p0 p1).trans hr
end F53
namespace F32
def cons : List (Nat × Con) := [(53, F53.c)]
def exts : List (Nat × Ext) := []
def h : List (Nat × Nat × Hint) := []
noncomputable def e (M : Nat) : Env := env cons exts h M
noncomputable def t32_0 (_ : Nat) : List Ent := []
theorem t32_0_ok (M : Nat) : AllOk (e M) (tblOf (t32_0 M)) := AllOk.nil
def s (M : Nat) (p0 : D) (p1 : D) : Option D :=
  (cond (eqI (p0.at 0).i (p1.at 0).i) (cond (eqS (p0.at 1).s (p1.at 1).s) (cond (eqS (p0.at 2).s (p1.at 2).s) (bd (match D.eqv ty eqDepth (p0.at 3) (p1.at 3) .bool with | some z => some (.bool z) | none => none) fun r1 => (cond r1.b (cond (eqI (p0.at 4).i (p1.at 4).i) (bd (F53.s FUEL (p0.at 5) (p1.at 5)) fun r2 => (some r2)) (some (db false))) (some (db false)))) (some (db false))) (some (db false))) (some (db false)))
theorem run (M : Nat) (p0 : D) (p1 : D) : callS (e M) (tblOf (t32_0 M)) 12 (.fn 32) [.d (.struct [3, 9, 9, 4, 3, 40]) p0, .d (.struct [3, 9, 9, 4, 3, 40]) p1] [] (fun v H => finish ty [4] v H) = s M p0 p1 := by kernel_rfl
noncomputable abbrev t (M : Nat) : List Ent := t32_0 M
theorem t_ok (M : Nat) : AllOk (e M) (tblOf (t M)) := t32_0_ok M
def c : Con := { run := fun ds => match ds with | [p0, p1] => s FUEL p0 p1 | _ => none, fresh := false, plain := true }
theorem fun_at : Tryd.prog.funcs[32]? = some Tryd.f32 := by kernel_rfl
theorem params : Tryd.f32.params.toList.map ty = [(.struct [3, 9, 9, 4, 3, 40]), (.struct [3, 9, 9, 4, 3, 40])] := by kernel_rfl
theorem results : Tryd.f32.resultTypes.toList = [4] := by kernel_rfl
theorem flat : Tryd.f32.resultTypes.toList.all (fun t => K.flat ty 20 (ty t)) = true := by kernel_rfl
theorem ok : ConOk (32, c) := by
  intro fn hfn
  obtain rfl : Tryd.f32 = fn := Option.some.inj (fun_at.symm.trans hfn)
  refine contract_flat (n := 20) hgl (fun _ => flat) (fun ds r hh0 hr => ?_)
  rw [params] at hh0
  obtain ⟨p0, ds0, rfl, h0, hh1⟩ := hass_cons hh0
  obtain ⟨p1, ds1, rfl, h1, hh2⟩ := hass_cons hh1
  obtain rfl := hass_nil hh2
  refine ⟨e FUEL, DEPTH, tblOf (t FUEL), envOk (allCons F53.ok allNil) allNil, rfl, t_ok FUEL, ?_⟩
  rw [params, results]
  exact (run FUEL p0 p1).trans hr
end F32
namespace F31
end F31
namespace F15
end F15
namespace F12
end F12
namespace F13
end F13
namespace F3
end F3
namespace F4
end F4
namespace F5
end F5
end Go.AM.SD
