/- Part 11 of the proof: the abstract machine, what the functions compute, and plain laws over that. -/
import Derived.Test.YtonknblidjpfeaaSt10
set_option linter.all false
set_option linter.unusedSimpArgs false
set_option linter.unusedVariables false
set_option linter.unusedSectionVars false
namespace Go.AM
open Go
theorem ct {c : Bool} {a b R : Option D} (h : c = true) (k : a = R) : cond c a b = R := by subst h; exact k
theorem cf {c : Bool} {a b R : Option D} (h : c = false) (k : b = R) : cond c a b = R := by subst h; exact k
theorem bdS {o : Option D} {x : D} {f : D → Option D} {R : Option D} (h : o = some x) (k : f x = R) : bd o f = R := by subst h; exact k
theorem goS_rule {S X : Type} {st : S → (S → Option D) → (X → Option D) → Option D} {K : X → Option D} (Inv : S → Prop) (μ : S → Nat) (Post : Option D → Prop)
    (h : ∀ s rec, Inv s → (∀ s', Inv s' → μ s' < μ s → Post (rec s')) → Post (st s rec K)) : ∀ N s, Inv s → μ s ≤ N → Post (goS st N s K)
  | 0, s, hi, hm => by
    simp only [goS]
    exact h s _ hi (fun s' _ h' => by omega)
  | N + 1, s, hi, hm => by
    simp only [goS]
    exact h s _ hi (fun s' hi' h' => goS_rule Inv μ Post h N s' hi' (by omega))
theorem ad64 {a b : Int} (h1 : -9223372036854775808 ≤ a + b) (h2 : a + b ≤ 9223372036854775807) : ad .i64 a b = a + b := by
  have h : ∀ n : Int, -9223372036854775808 ≤ n → n ≤ 9223372036854775807 → IntKind.i64.wrap n = n := by
    intro n h1 h2
    simp [IntKind.wrap, IntKind.signed, IntKind.bits]
    omega
  exact h _ h1 h2
theorem sb64 {a b : Int} (h1 : -9223372036854775808 ≤ a - b) (h2 : a - b ≤ 9223372036854775807) : sb .i64 a b = a - b := by
  have := ad64 (a := a) (b := -b) (by omega) (by omega)
  simp only [ad, sb] at this ⊢
  rw [show a - b = a + -b by omega]; exact this
@[simp] theorem ltI_t {a b : Int} : (ltI a b = true) = (a < b) := by simp [ltI]
@[simp] theorem ltI_f {a b : Int} : (ltI a b = false) = (b ≤ a) := by simp [ltI]
@[simp] theorem leI_t {a b : Int} : (leI a b = true) = (a ≤ b) := by simp [leI]
@[simp] theorem leI_f {a b : Int} : (leI a b = false) = (b < a) := by simp [leI]
@[simp] theorem gtI_t {a b : Int} : (gtI a b = true) = (b < a) := by simp [gtI]
@[simp] theorem gtI_f {a b : Int} : (gtI a b = false) = (a ≤ b) := by simp [gtI]
@[simp] theorem geI_t {a b : Int} : (geI a b = true) = (b ≤ a) := by simp [geI]
@[simp] theorem geI_f {a b : Int} : (geI a b = false) = (a < b) := by simp [geI]
@[simp] theorem eqI_t {a b : Int} : (eqI a b = true) = (a = b) := by simp [eqI]
@[simp] theorem eqI_f {a b : Int} : (eqI a b = false) = (a ≠ b) := by simp [eqI]
@[simp] theorem neI_t {a b : Int} : (neI a b = true) = (a ≠ b) := by simp [neI]
@[simp] theorem neI_f {a b : Int} : (neI a b = false) = (a = b) := by simp [neI]
@[simp] theorem inb_t {a : Int} {n : Nat} : (inb a n = true) = (0 ≤ a ∧ a < (n : Int)) := by simp [inb]
@[simp] theorem leN_t {a b : Nat} : (leN a b = true) = (a ≤ b) := by simp [leN]
@[simp] theorem eqN_t {a b : Nat} : (eqN a b = true) = (a = b) := by simp [eqN]
@[simp] theorem mx_t {a : Nat} : (mx a = true) = (a ≤ 1073741824) := by simp only [mx, maxLen]; exact propext decide_eq_true_iff
@[simp] theorem nI_eq {n : Nat} : nI n = (n : Int) := rfl
theorem ix_eq {l : List D} {n : Nat} (h : n < l.length) : ix l n = l[n] := by simp [ix, List.getD_eq_getElem?_getD, h]
theorem ix_map {α : Type} {l : List α} {f : α → D} {n : Nat} (h : n < l.length) : ix (l.map f) n = f l[n] := by rw [ix_eq (by simpa using h)]; simp
@[simp] theorem eqS_t {a b : ByteArray} : (eqS a b = true) = (a = b) := by
  simp only [eqS, beq_iff_eq, eq_iff_iff]
  constructor
  · intro h
    have h1 : ∀ x : ByteArray, x.toList = x.data.toList := fun x => by
      rw [ByteArray.toList]
      have key : ∀ (n i : Nat) (r : List UInt8), x.size - i = n → i ≤ x.size → ByteArray.toList.loop x i r = r.reverse ++ x.data.toList.drop i := by
        intro n
        induction n with
        | zero =>
          intro i r hn hi
          have : i = x.size := by omega
          unfold ByteArray.toList.loop
          rw [if_neg (by omega), List.drop_of_length_le (by simp; omega)]
          simp
        | succ n ih =>
          intro i r hn hi
          unfold ByteArray.toList.loop
          have hlt : i < x.size := by omega
          rw [if_pos hlt, ih (i + 1) _ (by omega) (by omega)]
          have hd : x.data.toList.drop i = x.get! i :: x.data.toList.drop (i + 1) := by
            rw [List.drop_eq_getElem_cons (by simpa using hlt)]
            congr 1
            cases x; rename_i a
            simp only [ByteArray.get!]
            rw [Array.getElem!_eq_getD, Array.getD_eq_getD_getElem?]
            have : i < a.size := hlt
            simp [this]
          rw [hd]; simp
      have := key x.size 0 [] (by omega) (by omega)
      simpa using this
    rw [h1, h1] at h
    cases a; cases b
    simp only [ByteArray.mk.injEq]
    exact Array.toList_inj.1 h
  · rintro rfl; rfl
@[simp] theorem eqS_f {a b : ByteArray} : (eqS a b = false) = (a ≠ b) := by
  rw [← Bool.not_eq_true, eqS_t]
@[simp] theorem eqS_self {a : ByteArray} : eqS a a = true := by rw [eqS_t]
@[simp] theorem at_agg (l : List D) (i : Nat) : (D.agg l).at i = l.getD i .nilFunc := rfl
@[simp] theorem at_tup (l : List D) (i : Nat) : (D.tup l).at i = l.getD i .nilFunc := rfl
@[simp] theorem i_int (k : IntKind) (n : Int) : (D.int k n).i = n := rfl
@[simp] theorem s_str (s : ByteArray) : (D.str s).s = s := rfl
@[simp] theorem b_bool (b : Bool) : (D.bool b).b = b := rfl
@[simp] theorem elems_slice (b : Bool) (l : List D) : (D.slice b l).elems = l := rfl
@[simp] theorem nn_slice (b : Bool) (l : List D) : (D.slice b l).nn = b := rfl
@[simp] theorem parts_agg (l : List D) : (D.agg l).parts = l := rfl
structure Ev where
  kind : Int
  id : Int
  name : ByteArray
  time : Int
  len : Int
  sum : List Int
def sumD (l : List Int) : D := .agg (l.map (D.int .u8))
def Ev.enc (e : Ev) : D := da [di e.kind, di e.id, dS e.name, di e.time, di e.len, sumD e.sum]
structure Fl where
  id : Int
  name : ByteArray
  data : ByteArray
  sealed : Bool
  until_ : Int
  nn : Bool
  holds : List ByteArray
def Fl.enc (f : Fl) : D := da [di f.id, dS f.name, dS f.data, db f.sealed, di f.until_, dl f.nn (f.holds.map dS)]
structure En where
  file : Fl
  len : Int
  sum : List Int
def En.enc (x : En) : D := da [x.file.enc, di x.len, sumD x.sum]
structure Bk where
  nn : Bool
  es : List En
  last : Int
  floor : Int
def Bk.enc (b : Bk) : D := da [dl b.nn (b.es.map En.enc), di b.last, di b.floor]
def i64ok (n : Int) : Prop := -9223372036854775808 ≤ n ∧ n ≤ 9223372036854775807
structure Ev.ok (e : Ev) : Prop where
  kind : i64ok e.kind
  id : i64ok e.id
  time : i64ok e.time
  len : i64ok e.len
  sum : e.sum.length = 32
section
variable {ty : Nat → K}
theorem hass_struct {d : D} {fs : List Nat} (h : D.has ty d (.struct fs)) : ∃ ds, d = .agg ds ∧ D.hass ty ds (fs.map ty) := by
  cases d with
  | agg ds => simp only [D.has] at h; exact ⟨ds, rfl, h.2⟩
  | slice nn ds => simp only [D.has] at h; obtain ⟨e, h, _⟩ := h; simp at h
  | iface t x => simp only [D.has] at h; obtain ⟨⟨m, h⟩, _⟩ := h; simp at h
  | bool b => simp [D.has] at h
  | int k n => simp [D.has] at h
  | str s => simp [D.has] at h
  | tup l => simp [D.has] at h
  | nilIface => simp [D.has] at h
  | fn f => simp [D.has] at h
  | nilFunc => simp [D.has] at h
  | nilPtr => simp [D.has] at h
  | nilMap => simp [D.has] at h
theorem hass_slice {d : D} {e : Nat} (h : D.has ty d (.slice e)) : ∃ nn ds, d = .slice nn ds ∧ D.hass ty ds (List.replicate ds.length (ty e)) ∧ (nn = false → ds = []) := by
  cases d with
  | slice nn ds => simp only [D.has] at h; obtain ⟨e', h1, h2, h3⟩ := h; simp at h1; subst h1; exact ⟨nn, ds, rfl, h2, h3⟩
  | agg ds => simp [D.has, K.isAgg] at h
  | iface t x => simp only [D.has] at h; obtain ⟨⟨m, h⟩, _⟩ := h; simp at h
  | bool b => simp [D.has] at h
  | int k n => simp [D.has] at h
  | str s => simp [D.has] at h
  | tup l => simp [D.has] at h
  | nilIface => simp [D.has] at h
  | fn f => simp [D.has] at h
  | nilFunc => simp [D.has] at h
  | nilPtr => simp [D.has] at h
  | nilMap => simp [D.has] at h
theorem wf_i64 {n : Int} (h : D.wf (.int .i64 n)) : i64ok n := by
  simp only [D.wf, IntKind.min, IntKind.max, IntKind.signed, IntKind.bits] at h
  unfold i64ok
  simp at h
  omega
theorem hass1 {d : D} {ds : List D} {κ : K} {κs : List K} (h : D.hass ty (d :: ds) (κ :: κs)) : D.has ty d κ ∧ D.hass ty ds κs := by
  simp only [D.hass] at h
  obtain ⟨_, _, h1, h2, h3⟩ := h
  simp only [List.cons.injEq] at h1
  obtain ⟨rfl, rfl⟩ := h1
  exact ⟨h2, h3⟩
theorem hass0 {ds : List D} (h : D.hass ty ds []) : ds = [] := by
  cases ds with
  | nil => rfl
  | cons d ds => simp [D.hass] at h
theorem hassC {ds : List D} {κ : K} {κs : List K} (h : D.hass ty ds (κ :: κs)) : ∃ d ds', ds = d :: ds' ∧ D.has ty d κ ∧ D.hass ty ds' κs := by
  cases ds with
  | nil => simp [D.hass] at h
  | cons d ds => exact ⟨d, ds, rfl, hass1 h⟩
theorem hass_rep {α : Type} {f : α → D} {κ : K} {Q : α → Prop} (one : ∀ d, D.has ty d κ → D.wf d → ∃ x, d = f x ∧ Q x) : ∀ {ds : List D} {n : Nat}, D.hass ty ds (List.replicate n κ) → D.wfs ds → ∃ l : List α, ds = l.map f ∧ l.length = n ∧ ∀ x ∈ l, Q x
  | [], n, h, _ => by
    cases n with
    | zero => exact ⟨[], rfl, rfl, by simp⟩
    | succ n => simp [List.replicate_succ, D.hass] at h
  | d :: ds, n, h, hw => by
    cases n with
    | zero => simp [D.hass] at h
    | succ n =>
      rw [List.replicate_succ] at h
      obtain ⟨h1, h2⟩ := hass1 h
      simp only [D.wfs] at hw
      obtain ⟨x, rfl, hx⟩ := one d h1 hw.1
      obtain ⟨l, rfl, rfl, hl⟩ := hass_rep one h2 hw.2
      exact ⟨x :: l, rfl, rfl, by simpa using ⟨hx, hl⟩⟩
end
end Go.AM
set_option linter.all false
set_option autoImplicit false
namespace Go.AM.SP
open Go Go.AM
def insI (x : Int) : List Int → List Int
  | [] => [x]
  | y :: l => cond (decide (x ≤ y)) (x :: y :: l) (y :: insI x l)
def isort : List Int → List Int
  | [] => []
  | x :: l => insI x (isort l)
theorem insI_perm (x : Int) : ∀ l : List Int, (insI x l).Perm (x :: l)
  | [] => .refl _
  | y :: l => by
    unfold insI
    cases h : decide (x ≤ y)
    · exact (List.Perm.cons y (insI_perm x l)).trans (List.Perm.swap x y l)
    · exact .refl _
theorem isort_perm : ∀ l : List Int, (isort l).Perm l
  | [] => .refl _
  | x :: l => (insI_perm x _).trans (List.Perm.cons x (isort_perm l))
theorem insI_sorted (x : Int) : ∀ l : List Int, l.Pairwise (· ≤ ·) → (insI x l).Pairwise (· ≤ ·)
  | [], _ => by simp [insI]
  | y :: l, h => by
    unfold insI
    cases hd : decide (x ≤ y)
    · have hxy : y ≤ x := by have := of_decide_eq_false hd; omega
      rw [List.pairwise_cons] at h
      refine List.pairwise_cons.2 ⟨?_, insI_sorted x l h.2⟩
      intro z hz
      have := (insI_perm x l).mem_iff.1 hz
      rcases List.mem_cons.1 this with rfl | h9
      · exact hxy
      · exact h.1 z h9
    · have hxy : x ≤ y := of_decide_eq_true hd
      refine List.pairwise_cons.2 ⟨?_, h⟩
      intro z hz
      rcases List.mem_cons.1 hz with rfl | h9
      · exact hxy
      · have := (List.pairwise_cons.1 h).1 z h9; omega
theorem isort_sorted : ∀ l : List Int, (isort l).Pairwise (· ≤ ·)
  | [] => .nil
  | x :: l => insI_sorted x _ (isort_sorted l)
theorem merge_sorted (l : List Int) : (l.mergeSort fun x y => decide (x ≤ y)).Pairwise (· ≤ ·) := by
  have h := List.pairwise_mergeSort (le := fun (x y : Int) => decide (x ≤ y)) (by intro a b c h1 h2; simp at *; omega) (by intro a b; simp; omega) l
  exact h.imp (by intro a b h; simpa using h)
theorem merge_isort (l : List Int) : (l.mergeSort fun x y => decide (x ≤ y)) = isort l := by
  refine List.Perm.eq_of_pairwise (le := (· ≤ ·)) ?_ (merge_sorted l) (isort_sorted l) ((List.mergeSort_perm _ _).trans (isort_perm l).symm)
  intro a b _ _ h1 h2; omega
def isortD (ds : List D) : List D := (isort (ds.map D.i)).map (D.int .i64)
theorem sortD_eq : sortD = isortD := by
  funext ds; unfold sortD isortD; rw [merge_isort]
theorem works_eq : F8.s FUEL = some (db true) := by
  unfold F8.s F17.s F15.s F18.s
  rw [sortD_eq]
  kernel_rfl
end Go.AM.SP
set_option linter.all false
set_option autoImplicit false
namespace Go.AM.SP
open Go Go.AM
structure Sp where
  (block at_ kind seq owner logic : Int) (text : ByteArray)
def Sp.enc (s : Sp) : D := da [di s.block, di s.at_, da [di s.kind, di s.seq, di s.owner, di s.logic, dS s.text]]
structure Ey where
  (logic owner block at_ : Int)
def Ey.enc (e : Ey) : D := da [di e.logic, di e.owner, di e.block, di e.at_]
structure Rt where
  (mn : Bool) (map : List Ey) (gn : Bool) (gone : List Int)
def Rt.enc (r : Rt) : D := da [dl r.mn (r.map.map Ey.enc), dl r.gn (r.gone.map (D.int .i64))]
def Sp.ok (s : Sp) : Prop := i64ok s.block ∧ i64ok s.at_ ∧ i64ok s.kind ∧ i64ok s.seq ∧ i64ok s.owner ∧ i64ok s.logic
def Ey.ok (e : Ey) : Prop := i64ok e.logic ∧ i64ok e.owner ∧ i64ok e.block ∧ i64ok e.at_
section
variable {α β : Type} [DecidableEq α]
def mget (a : α) : List (α × β) → Option β
  | [] => none
  | e :: m => if e.1 = a then some e.2 else mget a m
def mput (a : α) (v : β) : List (α × β) → List (α × β)
  | [] => [(a, v)]
  | e :: m => if e.1 = a then (a, v) :: m else e :: mput a v m
theorem mget_mput (a b : α) (v : β) : ∀ m : List (α × β), mget b (mput a v m) = if a = b then some v else mget b m
  | [] => by simp [mget, mput]
  | e :: m => by
    by_cases h : e.1 = a
    · simp only [mput, h, if_true, mget]
      by_cases h2 : a = b
      · simp [h2]
      · simp [h2]
    · simp only [mput, h, if_false, mget, mget_mput a b v m]
      by_cases h2 : a = b
      · subst h2; simp [h]
      · simp [h2]
def encM (f : α → D) (g : β → D) (m : List (α × β)) : List (D × D) := m.map fun e => (f e.1, g e.2)
structure At (f : α → D) (g : β → D) (m : List (α × β)) (a : α) (q : Option Nat) : Prop where
  val : ∀ z, entryVal (encM f g m) z q = match mget a m with | some v => g v | none => z
  put : ∀ v, entrySet (encM f g m) (f a) (g v) q = encM f g (mput a v m)
  set : ∀ v v', setVal (entrySet (encM f g m) (f a) v q) (entryAt (encM f g m) q) (g v') = encM f g (mput a v' m)
  at_ : ∀ v, entryAt (encM f g m) q < (entrySet (encM f g m) (f a) v q).length
  is : q.isSome = (mget a m).isSome
theorem assoc_enc {κ : K} {f : α → D} {g : β → D} (hf : ∀ a b, D.eqv ty eqDepth (f a) (f b) κ = some (decide (a = b))) (a : α) :
    ∀ (m : List (α × β)) (i : Nat), ∃ q : Option Nat, assoc ty κ (f a) (encM f g m) i = some (q.map (· + i)) ∧ At f g m a q
  | [], i => ⟨none, rfl, ⟨fun _ => rfl, fun _ => rfl, fun _ _ => rfl, fun v => by simp [entryAt, entrySet, encM], rfl⟩⟩
  | e :: m, i => by
    by_cases h : e.1 = a
    · refine ⟨some 0, ?_, ?_⟩
      · show assoc ty κ (f a) ((f e.1, g e.2) :: encM f g m) i = _
        simp only [assoc, hf, h, decide_true, Option.map_some, Nat.zero_add]
      · constructor
        · intro z; simp [entryVal, encM, mget, h]
        · intro v; simp [entrySet, encM, mput, h]
        · intro v v'; simp [entrySet, setVal, entryAt, encM, mput, h]
        · intro v; simp [entrySet, entryAt, encM]
        · simp [mget, h]
    · obtain ⟨q, h1, h2⟩ := assoc_enc hf a m (i + 1)
      refine ⟨q.map (· + 1), ?_, ?_⟩
      · show assoc ty κ (f a) ((f e.1, g e.2) :: encM f g m) i = _
        have h' : ¬ a = e.1 := fun x => h x.symm
        simp only [assoc, hf, h', decide_false]
        rw [h1]
        cases q <;> simp; omega
      · have c : encM f g (e :: m) = (f e.1, g e.2) :: encM f g m := rfl
        have cp : ∀ v, encM f g (mput a v (e :: m)) = (f e.1, g e.2) :: encM f g (mput a v m) := fun v => by simp [mput, h, encM]
        constructor
        · intro z
          have := h2.val z
          rw [c]
          cases q <;> simpa [entryVal, mget, h] using this
        · intro v
          have := h2.put v
          rw [c, cp, ← this]
          cases q <;> simp [entrySet]
        · intro v v'
          have := h2.set v v'
          rw [c, cp, ← this]
          cases q <;> simp [entrySet, setVal, entryAt]
        · intro v
          have := h2.at_ v
          rw [c]
          cases q <;> simp [entrySet, entryAt] at this ⊢ <;> omega
        · have := h2.is
          simp only [mget, h, if_false]
          rw [← this]; cases q <;> rfl
theorem assoc_enc0 {κ : K} {f : α → D} {g : β → D} (hf : ∀ a b, D.eqv ty eqDepth (f a) (f b) κ = some (decide (a = b))) (a : α) (m : List (α × β)) :
    ∃ q : Option Nat, assoc ty κ (f a) (encM f g m) 0 = some q ∧ At f g m a q := by
  obtain ⟨q, h1, h2⟩ := assoc_enc (f := f) (g := g) hf a m 0
  refine ⟨q, ?_, h2⟩
  rw [h1]; cases q <;> rfl
theorem bdqS {o : Option (Option Nat)} {q : Option Nat} {f : Option Nat → Option D} {R : Option D} (h : o = some q) (k : f q = R) : bdq o f = R := by subst h; exact k
end
theorem take_all {α : Type} {l : List α} : l.take l.length = l := List.take_of_length_le (Nat.le_refl _)
theorem few_ok (nn : Bool) (l : List Sp) : ∃ b : Bool, F9.s FUEL (dl nn (l.map Sp.enc)) = some (db b) ∧ (b = true → l.length ≤ 60 ∧ ∀ x ∈ l, x.text.size ≤ 230) := by
  unfold F9.s
  refine goS_rule (fun t : F9.S2 => ∃ k : Nat, t = ⟨dl nn (l.map Sp.enc), (k : Int)⟩ ∧ k ≤ l.length ∧ k ≤ 61 ∧ ∀ x ∈ l.take k, x.text.size ≤ 230) (fun t => 61 - t.i2.toNat) (fun o => ∃ b : Bool, o = some (db b) ∧ (b = true → l.length ≤ 60 ∧ ∀ x ∈ l, x.text.size ≤ 230)) ?_ _ _ ⟨0, rfl, by omega, by omega, by simp⟩ (by simp [FUEL])
  rintro _ rec ⟨k, rfl, hk, hk61, ht⟩ hrec
  simp only [F9.st2]
  by_cases h1 : k < l.length
  · by_cases h2 : k ≤ 60
    · have hx : ix (l.map Sp.enc) k = l[k].enc := ix_map h1
      have e1 : ltI (k : Int) (nI (dl nn (l.map Sp.enc)).elems.length) = true := by simp; omega
      have e2 : leI (k : Int) 60 = true := by simp; omega
      have e3 : inb (k : Int) (dl nn (l.map Sp.enc)).elems.length = true := by simp; omega
      rw [e1, e2, e3]
      have e4 : gtI (nI (((ix (dl nn (l.map Sp.enc)).elems (k : Int).toNat).at 2).at 4).s.size) 230 = decide (230 < l[k].text.size) := by
        show gtI (nI (((ix (l.map Sp.enc) k).at 2).at 4).s.size) 230 = _
        rw [hx]
        show gtI ((l[k].text.size : Nat) : Int) 230 = _
        simp [gtI]
        omega
      rw [e4]
      by_cases h3 : 230 < l[k].text.size
      · simp only [h3, decide_true, cond_true]
        exact ⟨false, rfl, by simp⟩
      · simp only [h3, decide_false, cond_true, cond_false]
        have hadd : ad .i64 (k : Int) 1 = ((k + 1 : Nat) : Int) := by rw [ad64 (by omega) (by omega)]; rfl
        rw [hadd]
        refine hrec _ ⟨k + 1, rfl, by omega, by omega, ?_⟩ (by simp; omega)
        intro x hx
        rw [List.take_succ_eq_append_getElem h1] at hx
        rcases List.mem_append.1 hx with h | h
        · exact ht x h
        · simp at h; subst h; omega
    · have e1 : ltI (k : Int) (nI (dl nn (l.map Sp.enc)).elems.length) = true := by simp; omega
      have e2 : leI (k : Int) 60 = false := by simp; omega
      rw [e1, e2]
      refine ⟨_, rfl, ?_⟩
      intro h; simp at h; omega
  · have e1 : ltI (k : Int) (nI (dl nn (l.map Sp.enc)).elems.length) = false := by simp; omega
    rw [e1]
    refine ⟨_, rfl, ?_⟩
    intro h
    simp at h
    refine ⟨by omega, ?_⟩
    rw [List.take_of_length_le (by omega)] at ht
    exact ht
end Go.AM.SP
set_option linter.all false
set_option autoImplicit false
namespace Go.AM.SP
open Go Go.AM
def isB (e : Ey) (s : Sp) : Bool := s.block == e.block && s.at_ == e.at_ && s.kind == 0 && s.owner == e.owner && s.logic == e.logic
def holdsB (l : List Sp) (m : List Ey) : Bool := m.all fun e => l.any (isB e)
abbrev Key := Int × Int × Int × Int
def keyD (k : Key) : D := da [da [di k.1, di k.2.1], da [di k.2.2.1, di k.2.2.2]]
def Sp.key (s : Sp) : Key := (s.block, s.at_, s.owner, s.logic)
def Ey.key (e : Ey) : Key := (e.block, e.at_, e.owner, e.logic)
theorem eqv_int (n : Nat) (a b : Int) : D.eqv ty (n + 1) (di a) (di b) (.int .i64) = some (decide (a = b)) := by
  simp [D.eqv]
  by_cases h : a = b <;> simp [h]
theorem eqv_key (a b : Key) : D.eqv ty eqDepth (keyD a) (keyD b) (.struct [67, 67]) = some (decide (a = b)) := by
  obtain ⟨a1, a2, a3, a4⟩ := a
  obtain ⟨b1, b2, b3, b4⟩ := b
  have t67 : ty 67 = .array 2 3 := rfl
  have t3 : ty 3 = .int .i64 := rfl
  have h2 : ∀ x1 x2 y1 y2 : Int, D.eqv ty 15 (da [di x1, di x2]) (da [di y1, di y2]) (.array 2 3) = some (decide (x1 = y1 ∧ x2 = y2)) := by
    intro x1 x2 y1 y2
    show eqvs (D.eqv ty 14) [di x1, di x2] [di y1, di y2] [ty 3, ty 3] = _
    rw [t3]
    simp only [eqvs]
    rw [eqv_int 13, eqv_int 13]
    by_cases h1 : x1 = y1 <;> by_cases h2 : x2 = y2 <;> simp [h1, h2]
  show eqvs (D.eqv ty 15) [da [di a1, di a2], da [di a3, di a4]] [da [di b1, di b2], da [di b3, di b4]] [ty 67, ty 67] = _
  rw [t67]
  simp only [eqvs]
  rw [h2, h2]
  by_cases h1 : a1 = b1 ∧ a2 = b2 <;> by_cases h2 : a3 = b3 ∧ a4 = b4 <;> simp [h1, h2] <;> grind
def cnt (k : Key) (l : List Sp) : Nat := l.countP fun s => s.kind == 0 && s.key == k
theorem cnt_any (e : Ey) : ∀ l : List Sp, (decide (cnt e.key l = 0)) = !(l.any (isB e))
  | [] => rfl
  | s :: l => by
    have ih := cnt_any e l
    have : (s.kind == 0 && s.key == e.key) = isB e s := by
      simp only [isB, Sp.key, Ey.key]
      rw [Bool.eq_iff_iff]; simp; grind
    simp only [cnt, List.countP_cons, this, List.any_cons] at ih ⊢
    cases h : isB e s
    · simpa [h] using ih
    · simp [h]
theorem scan_holds (nn : Bool) (l : List Sp) (r : Rt) (hl : l.length ≤ 1048576) (hr : r.map.length ≤ 1048576) : F13.s FUEL (dl nn (l.map Sp.enc)) r.enc = some (db (holdsB l r.map)) := by
  unfold F13.s
  refine goS_rule (fun t : F13.S3 => ∃ (k : Nat) (m : List (Key × Int)), t = ⟨dl nn (l.map Sp.enc), (l.length : Int), (k : Int), r.enc, encM keyD di m⟩ ∧ k ≤ l.length ∧ ∀ y, (mget y m).getD 0 = (cnt y (l.take k) : Int)) (fun t => l.length - t.i3.toNat) (fun o => o = some (db (holdsB l r.map))) ?_ _ _ ⟨0, [], by simp [encM], by omega, by simp [mget, cnt]⟩ (by simp [FUEL]; omega)
  rintro _ rec ⟨k, m, rfl, hk, hm⟩ hrec
  simp only [F13.st3]
  by_cases h1 : k < l.length
  · have hx : ix (dl nn (l.map Sp.enc)).elems (k : Int).toNat = l[k].enc := ix_map h1
    have e1 : ltI (k : Int) (l.length : Int) = true := by simp; omega
    have e3 : inb (k : Int) (dl nn (l.map Sp.enc)).elems.length = true := by simp; omega
    have hadd : ad .i64 (k : Int) 1 = ((k + 1 : Nat) : Int) := by rw [ad64 (by omega) (by omega)]; rfl
    rw [e1, e3, hx, hadd]
    simp only [cond_true]
    have a0 : ((l[k].enc.at 2).at 0).i = l[k].kind := rfl
    have ak : da [da [l[k].enc.at 0, l[k].enc.at 1], da [(l[k].enc.at 2).at 2, (l[k].enc.at 2).at 3]] = keyD l[k].key := rfl
    rw [a0, ak]
    have step : ∀ y, cnt y (l.take (k + 1)) = cnt y (l.take k) + if l[k].kind = 0 ∧ l[k].key = y then 1 else 0 := by
      intro y
      rw [List.take_succ_eq_append_getElem h1, cnt, List.countP_append]
      simp [cnt, List.countP_cons]
    by_cases h2 : l[k].kind = 0
    · refine ct (by simp [h2]) ?_
      obtain ⟨q, hq, hA⟩ := assoc_enc0 (g := di) eqv_key l[k].key m
      refine bdqS hq (ct (by rw [eqv_key]; simp [eqT]) (bdqS hq (ct ?_ ?_)))
      · have := hA.at_ (entryVal (encM keyD di m) (di 0) q)
        simp; omega
      · have e9 : (entryVal (encM keyD di m) (di 0) q).i = (cnt l[k].key (l.take k) : Int) := by
          rw [hA.val, ← hm]
          cases mget l[k].key m <;> rfl
        rw [e9]
        have hc : (cnt l[k].key (l.take k) : Int) ≤ l.length := by
          have := List.countP_le_length (p := fun s : Sp => s.kind == 0 && s.key == l[k].key) (l := l.take k)
          rw [List.length_take] at this
          simp only [cnt]; omega
        rw [ad64 (by omega) (by omega), hA.set]
        refine hrec _ ⟨k + 1, _, rfl, by omega, ?_⟩ (by simp; omega)
        intro y
        rw [mget_mput, step]
        by_cases h3 : l[k].key = y
        · simp [h2, h3]
        · simp [h2, h3, hm]
    · refine cf (by simp [h2]) ?_
      refine hrec _ ⟨k + 1, m, rfl, by omega, ?_⟩ (by simp; omega)
      intro y
      rw [step, hm]; simp [h2]
  · have e1 : ltI (k : Int) (l.length : Int) = false := by simp; omega
    rw [e1]
    have hkl : k = l.length := by omega
    subst hkl
    rw [take_all] at hm
    simp only [cond_false]
    have h0 : (r.enc.at 0) = dl r.mn (r.map.map Ey.enc) := rfl
    rw [h0]
    refine goS_rule (fun t : F13.S36_2 => ∃ (j : Nat), t = ⟨dl r.mn (r.map.map Ey.enc), (r.map.length : Int), (j : Int), r.enc, encM keyD di m⟩ ∧ j ≤ r.map.length ∧ (r.map.take j).all (fun e => l.any (isB e)) = true) (fun t => r.map.length - t.i10.toNat) (fun o => o = some (db (holdsB l r.map))) ?_ _ _ ⟨0, by simp, by omega, by simp⟩ (by simp [FUEL]; omega)
    rintro _ rec2 ⟨j, rfl, hj, ha⟩ hrec2
    simp only [F13.st36_2]
    by_cases h4 : j < r.map.length
    · have hx : ix (dl r.mn (r.map.map Ey.enc)).elems (j : Int).toNat = r.map[j].enc := ix_map h4
      have f1 : ltI (j : Int) (r.map.length : Int) = true := by simp; omega
      have f3 : inb (j : Int) (dl r.mn (r.map.map Ey.enc)).elems.length = true := by simp; omega
      have hadd : ad .i64 (j : Int) 1 = ((j + 1 : Nat) : Int) := by rw [ad64 (by omega) (by omega)]; rfl
      rw [f1, f3, hx, hadd]
      simp only [cond_true]
      have ak : da [da [r.map[j].enc.at 2, r.map[j].enc.at 3], da [r.map[j].enc.at 1, r.map[j].enc.at 0]] = keyD r.map[j].key := rfl
      rw [ak]
      obtain ⟨q, hq, hA⟩ := assoc_enc0 (g := di) eqv_key r.map[j].key m
      refine bdqS hq ?_
      have e9 : (entryVal (encM keyD di m) (di 0) q).i = (cnt r.map[j].key l : Int) := by
        rw [hA.val, ← hm]
        cases mget r.map[j].key m <;> rfl
      have hany := cnt_any r.map[j] l
      rw [e9]
      cases hb : l.any (isB r.map[j])
      · rw [hb] at hany
        have hz : cnt r.map[j].key l = 0 := by simpa using hany
        refine ct (by simp [hz]) ?_
        have hf : holdsB l r.map = false := by
          rw [holdsB, List.all_eq_false]
          exact ⟨r.map[j], List.getElem_mem _, by simp [hb]⟩
        rw [hf]
        have : geI (j : Int) 0 = true := by simp
        rw [this]; rfl
      · rw [hb] at hany
        have hz : cnt r.map[j].key l ≠ 0 := by simpa using hany
        refine cf (by simp; omega) ?_
        refine hrec2 _ ⟨j + 1, rfl, by omega, ?_⟩ (by simp; omega)
        rw [List.take_succ_eq_append_getElem h4, List.all_append, ha]
        simp [hb]
    · refine cf (by simp; omega) ?_
      have hjl : j = r.map.length := by omega
      subst hjl
      rw [take_all] at ha
      rw [holdsB, ha]
end Go.AM.SP
set_option linter.all false
set_option autoImplicit false
namespace Go.AM.SP
open Go Go.AM
def ddg (p : Int) : List Int → List Int
  | [] => []
  | y :: ys => if y = p then ddg p ys else y :: ddg y ys
def dd : List Int → List Int
  | [] => []
  | x :: xs => x :: ddg x xs
theorem ddg_snoc (a b : Int) : ∀ (ys : List Int) (p : Int), ddg p (ys ++ [a, b]) = ddg p (ys ++ [a]) ++ (if b = a then [] else [b])
  | [], p => by
    by_cases h : a = p
    · subst h; by_cases h2 : b = a <;> simp [ddg, h2]
    · by_cases h2 : b = a <;> simp [ddg, h, h2]
  | y :: ys, p => by
    by_cases h : y = p
    · simp [ddg, h, ddg_snoc a b ys]
    · simp [ddg, h, ddg_snoc a b ys]
theorem dd_snoc (a b : Int) : ∀ ys : List Int, dd (ys ++ [a, b]) = dd (ys ++ [a]) ++ (if b = a then [] else [b])
  | [] => by by_cases h2 : b = a <;> simp [dd, ddg, h2]
  | y :: ys => by simp [dd, ddg_snoc]
theorem dd_take {xs : List Int} {n : Nat} (h1 : 1 ≤ n) (h2 : n < xs.length) : dd (xs.take (n + 1)) = dd (xs.take n) ++ (if xs[n] = xs[n - 1] then [] else [xs[n]]) := by
  obtain ⟨m, rfl⟩ : ∃ m, n = m + 1 := ⟨n - 1, by omega⟩
  have e1 : xs.take (m + 1) = xs.take m ++ [xs[m]] := List.take_succ_eq_append_getElem (by omega)
  have e2 : xs.take (m + 1 + 1) = xs.take m ++ [xs[m], xs[m + 1]] := by
    rw [List.take_succ_eq_append_getElem (by omega), e1, List.append_assoc]; rfl
  rw [e1, e2, dd_snoc]; simp
theorem ix_map' {xs : List Int} {tl : List D} {j : Nat} (h : j < xs.length) : ix (xs.map (D.int .i64) ++ tl) j = di xs[j] := by
  rw [ix_eq (by simp; omega)]
  rw [List.getElem_append_left (by simpa using h)]; simp
theorem ix_set_ne {l : List D} {a j : Nat} {v : D} (h : a ≠ j) : ix (l.set a v) j = ix l j := by
  simp [ix, List.getD_eq_getElem?_getD, List.getElem?_set, h]
theorem take_set_succ {l : List D} {a : Nat} {v : D} (h : a < l.length) : (l.set a v).take (a + 1) = l.take a ++ [v] := by
  rw [List.take_succ_eq_append_getElem (by simpa using h)]
  simp [List.take_set_of_le]
theorem dd_short {xs : List Int} (h : xs.length < 2) : dd xs = xs := by
  match xs, h with
  | [], _ => rfl
  | [x], _ => rfl
section
variable {S S9 X X9 : Type} {M : Nat}
theorem compact_in {st : S9 → (S9 → Option D) → (X9 → Option D) → Option D} {mk : Nat → Nat → Int → Nat → Nat → Int → List D → S9} {ex : Nat → Nat → Int → List D → X9}
    (h : ∀ n1 n2 i n3 n4 j l rec K, st (mk n1 n2 i n3 n4 j l) rec K = (cond (ltI j (nI n4)) (cond (inb j n4) (cond (inb (sb .i64 j 1) n4) (cond (neI (ix l (n3 + j.toNat)).i (ix l (n3 + (sb .i64 j 1).toNat)).i) (cond (inb j n4) (cond (inb i n2) (rec (mk n1 n2 (ad .i64 i 1) n3 n4 (ad .i64 j 1) (l.set (n1 + i.toNat) (ix l (n3 + j.toNat))))) none) none) (rec (mk n1 n2 i n3 n4 (ad .i64 j 1) l))) none) none) (K (ex n1 n2 i l))))
    {xs : List Int} {L k : Nat} (hL : xs.length ≤ L) (hx : xs.length ≤ 1048576) (hM : 1048576 ≤ M) (K : X9 → Option D) (l0 : List D) (hl0 : l0.length = L)
    (hk1 : 1 ≤ k) (hk : k < xs.length) (h0 : ∀ j, k ≤ j → (hj : j < xs.length) → ix l0 j = di xs[j]) (ht : l0.take k = (dd (xs.take (k + 1))).map (D.int .i64)) :
    ∃ (a : Nat) (l : List D), a ≤ xs.length ∧ l.length = L ∧ l.take a = (dd xs).map (D.int .i64) ∧ goS st M (mk 0 xs.length k k (xs.length - k) 1 l0) K = K (ex 0 xs.length a l) := by
  have gen : ∀ N (a b : Nat) (l : List D), xs.length - k - b ≤ N → 1 ≤ b → b ≤ xs.length - k → a < k + b → l.length = L →
      (∀ j, k + b - 1 ≤ j → (hj : j < xs.length) → ix l j = di xs[j]) → l.take a = (dd (xs.take (k + b))).map (D.int .i64) →
      ∃ (a' : Nat) (l' : List D), a' ≤ xs.length ∧ l'.length = L ∧ l'.take a' = (dd xs).map (D.int .i64) ∧ goS st N (mk 0 xs.length a k (xs.length - k) b l) K = K (ex 0 xs.length a' l') := by
    intro N
    induction N with
    | zero =>
      intro a b l hN hb1 hb2 hab hl hix hta
      have hb : b = xs.length - k := by omega
      subst hb
      refine ⟨a, l, by omega, hl, ?_, ?_⟩
      · rw [hta, show k + (xs.length - k) = xs.length by omega, take_all]
      · simp only [goS]
        rw [h]
        exact cf (by simp) rfl
    | succ N ih =>
      intro a b l hN hb1 hb2 hab hl hix hta
      by_cases hb : b = xs.length - k
      · subst hb
        refine ⟨a, l, by omega, hl, ?_, ?_⟩
        · rw [hta, show k + (xs.length - k) = xs.length by omega, take_all]
        · simp only [goS]
          rw [h]
          exact cf (by simp) rfl
      · have hsb : sb .i64 (b : Int) 1 = ((b - 1 : Nat) : Int) := by rw [sb64 (by omega) (by omega)]; omega
        have hadd : ∀ c : Nat, c ≤ 1048576 → ad .i64 (c : Int) 1 = ((c + 1 : Nat) : Int) := by intro c hc; rw [ad64 (by omega) (by omega)]; rfl
        have x1 : ix l (k + b) = di xs[k + b] := hix _ (by omega) (by omega)
        have x2 : ix l (k + (b - 1)) = di xs[k + b - 1] := by
          have := hix (k + b - 1) (by omega) (by omega)
          rwa [show k + (b - 1) = k + b - 1 by omega]
        have hdd := dd_take (xs := xs) (n := k + b) (by omega) (by omega)
        have hlen : a ≤ xs.length := by omega
        by_cases hne : xs[k + b] = xs[k + b - 1]
        · obtain ⟨a', l', r1, r2, r3, r4⟩ := ih a (b + 1) l (by omega) (by omega) (by omega) (by omega) hl (fun j hj hj' => hix j (by omega) hj') (by rw [hta, show k + (b + 1) = k + b + 1 by omega, hdd]; simp [hne])
          refine ⟨a', l', r1, r2, r3, ?_⟩
          simp only [goS]
          rw [h]
          refine ct (by simp; omega) (ct (by simp; omega) (ct (by rw [hsb]; simp; omega) (cf ?_ ?_)))
          · rw [hsb, Int.toNat_natCast, Int.toNat_natCast, x1, x2]; simp [hne]
          · rw [hadd b (by omega)]; exact r4
        · obtain ⟨a', l', r1, r2, r3, r4⟩ := ih (a + 1) (b + 1) (l.set a (di xs[k + b])) (by omega) (by omega) (by omega) (by omega) (by simpa using hl) (fun j hj hj' => by rw [ix_set_ne (by omega)]; exact hix j (by omega) hj') (by rw [take_set_succ (by omega), hta, show k + (b + 1) = k + b + 1 by omega, hdd]; simp [hne])
          refine ⟨a', l', r1, r2, r3, ?_⟩
          simp only [goS]
          rw [h]
          refine ct (by simp; omega) (ct (by simp; omega) (ct (by rw [hsb]; simp; omega) (ct ?_ (ct (by simp; omega) (ct (by simp; omega) ?_)))))
          · rw [hsb, Int.toNat_natCast, Int.toNat_natCast, x1, x2]; simp [hne]
          · rw [hadd b (by omega), hadd a (by omega), Int.toNat_natCast, Int.toNat_natCast, x1, Nat.zero_add]; exact r4
  exact gen M k 1 l0 (by omega) (by omega) (by omega) (by omega) hl0 (fun j hj hj' => h0 j (by omega) hj') ht
theorem compact_out {st9 : S9 → (S9 → Option D) → (X9 → Option D) → Option D} {mk9 : Nat → Nat → Int → Nat → Nat → Int → List D → S9} {ex9 : Nat → Nat → Int → List D → X9}
    {st : S → (S → Option D) → (X → Option D) → Option D} {mk : Nat → Nat → Int → List D → S} {ex0 : Nat → Nat → Int → List D → X} {ex1 : Nat → Nat → List D → X}
    (h9 : ∀ n1 n2 i n3 n4 j l rec K, st9 (mk9 n1 n2 i n3 n4 j l) rec K = (cond (ltI j (nI n4)) (cond (inb j n4) (cond (inb (sb .i64 j 1) n4) (cond (neI (ix l (n3 + j.toNat)).i (ix l (n3 + (sb .i64 j 1).toNat)).i) (cond (inb j n4) (cond (inb i n2) (rec (mk9 n1 n2 (ad .i64 i 1) n3 n4 (ad .i64 j 1) (l.set (n1 + i.toNat) (ix l (n3 + j.toNat))))) none) none) (rec (mk9 n1 n2 i n3 n4 (ad .i64 j 1) l))) none) none) (K (ex9 n1 n2 i l))))
    (h : ∀ K, ∃ K9 : X9 → Option D, (∀ n1 n2 i l rec, st (mk n1 n2 i l) rec K = (cond (ltI i (nI n2)) (cond (inb i n2) (cond (inb (sb .i64 i 1) n2) (cond (eqI (ix l (n1 + i.toNat)).i (ix l (n1 + (sb .i64 i 1).toNat)).i) (cond ((leI 0 i) && (leI i (nI n2)) && (leN (n1 + n2) l.length)) (goS st9 M (mk9 n1 n2 i (n1 + i.toNat) (n2 - i.toNat) 1 l) K9) none) (rec (mk n1 n2 (ad .i64 i 1) l))) none) none) (K (ex1 n1 n2 l)))) ∧
      ∀ n1 n2 i l, K9 (ex9 n1 n2 i l) = (cond ((leI 0 i) && (leI i (nI n2)) && (leN (n1 + n2) l.length)) (cond (true && (leI 0 i) && (leN (n1 + i.toNat) (ap (ap (l.take (n1 + i.toNat)) (rp (n2 - i.toNat) (di 0))) (l.drop ((n1 + i.toNat) + (n2 - i.toNat)))).length)) (K (ex0 n1 n2 i l)) none) none))
    {xs : List Int} (hx : xs.length ≤ 1048576) (hM : 1048576 ≤ M) (tl : List D) (h2 : 1 ≤ xs.length) (K : X → Option D) :
    (∃ (a : Nat) (l : List D), a ≤ xs.length ∧ l.length = xs.length + tl.length ∧ l.take a = (dd xs).map (D.int .i64) ∧ goS st M (mk 0 xs.length 1 (xs.map (D.int .i64) ++ tl)) K = K (ex0 0 xs.length a l)) ∨
    (dd xs = xs ∧ goS st M (mk 0 xs.length 1 (xs.map (D.int .i64) ++ tl)) K = K (ex1 0 xs.length (xs.map (D.int .i64) ++ tl))) := by
  obtain ⟨K9, hs, hk9⟩ := h K
  generalize hl0 : xs.map (D.int .i64) ++ tl = l0
  have hlen0 : l0.length = xs.length + tl.length := by rw [← hl0]; simp
  have hix : ∀ j, (hj : j < xs.length) → ix l0 j = di xs[j] := by intro j hj; rw [← hl0]; exact ix_map' hj
  have htk : ∀ k, k ≤ xs.length → l0.take k = (xs.take k).map (D.int .i64) := by
    intro k hk
    rw [← hl0, List.take_append_of_le_length (by simpa using hk), List.map_take]
  have gen : ∀ N (k : Nat), xs.length - k ≤ N → 1 ≤ k → k ≤ xs.length → dd (xs.take k) = xs.take k →
      (∃ (a : Nat) (l : List D), a ≤ xs.length ∧ l.length = xs.length + tl.length ∧ l.take a = (dd xs).map (D.int .i64) ∧ goS st N (mk 0 xs.length k l0) K = K (ex0 0 xs.length a l)) ∨
      (dd xs = xs ∧ goS st N (mk 0 xs.length k l0) K = K (ex1 0 xs.length l0)) := by
    intro N
    have base : ∀ N, dd (xs.take xs.length) = xs.take xs.length → (dd xs = xs ∧ goS st N (mk 0 xs.length xs.length l0) K = K (ex1 0 xs.length l0)) := by
      intro N hd
      rw [take_all] at hd
      refine ⟨hd, ?_⟩
      cases N <;> (simp only [goS]; rw [hs]; exact cf (by simp) rfl)
    induction N with
    | zero =>
      intro k hN hk1 hk hd
      have : k = xs.length := by omega
      subst this
      exact .inr (base _ hd)
    | succ N ih =>
      intro k hN hk1 hk hd
      by_cases hkl : k = xs.length
      · subst hkl
        exact .inr (base _ hd)
      · have hsb : sb .i64 (k : Int) 1 = ((k - 1 : Nat) : Int) := by rw [sb64 (by omega) (by omega)]; omega
        have hadd : ad .i64 (k : Int) 1 = ((k + 1 : Nat) : Int) := by rw [ad64 (by omega) (by omega)]; rfl
        have x1 : ix l0 k = di xs[k] := hix _ (by omega)
        have x2 : ix l0 (k - 1) = di xs[k - 1] := hix _ (by omega)
        have hdd := dd_take (xs := xs) (n := k) (by omega) (by omega)
        simp only [goS]
        rw [hs, hsb, hadd, Int.toNat_natCast, Int.toNat_natCast, Nat.zero_add, Nat.zero_add, x1, x2]
        have e1 : ltI (k : Int) (nI xs.length) = true := by simp; omega
        have e2 : inb (k : Int) xs.length = true := by simp; omega
        have e3 : inb ((k - 1 : Nat) : Int) xs.length = true := by simp; omega
        rw [e1, e2, e3]
        simp only [cond_true]
        by_cases hne : xs[k] = xs[k - 1]
        · have e4 : eqI (di xs[k]).i (di xs[k - 1]).i = true := by simp [hne]
          have e5 : ((leI 0 (k : Int)) && (leI (k : Int) (nI xs.length)) && (leN (0 + xs.length) l0.length)) = true := by simp; omega
          rw [e4, e5]
          simp only [cond_true]
          obtain ⟨a, l, r1, r2, r3, r4⟩ := compact_in h9 (L := xs.length + tl.length) (k := k) (by omega) hx hM K9 l0 hlen0 (by omega) (by omega) (fun j _ hj => hix j hj) (by rw [hdd, hd, htk k (by omega)]; simp [hne])
          refine .inl ⟨a, l, r1, r2, r3, ?_⟩
          rw [r4, hk9]
          refine ct (by simp; omega) (ct ?_ rfl)
          simp [ap, rp]
          omega
        · have e4 : eqI (di xs[k]).i (di xs[k - 1]).i = false := by simp [hne]
          rw [e4]
          simp only [cond_false]
          refine ih (k + 1) (by omega) (by omega) (by omega) ?_
          rw [hdd, hd, List.take_succ_eq_append_getElem (by omega)]; simp [hne]
  exact gen M 1 (by omega) (by omega) (by omega) (dd_short (by simp; omega))
end
end Go.AM.SP
set_option linter.all false
set_option autoImplicit false
namespace Go.AM.SP
open Go Go.AM
theorem isort_len (l : List Int) : (isort l).length = l.length := (isort_perm l).length_eq
theorem sortD_ints (xs : List Int) : sortD (xs.map (D.int .i64)) = (isort xs).map (D.int .i64) := by
  rw [sortD_eq]; unfold isortD
  congr 2
  rw [List.map_map]; exact List.map_id'' (fun _ => rfl) xs
structure Fd where
  (root : Rt) (seq : Int) (pn : Bool) (parts : List Sp) (high : Int)
def Fd.enc (f : Fd) : D := da [f.root.enc, di f.seq, dl f.pn (f.parts.map Sp.enc), di f.high]
theorem ddg_mem (x : Int) : ∀ (xs : List Int) (p : Int), (x = p ∨ x ∈ ddg p xs) ↔ (x = p ∨ x ∈ xs)
  | [], p => Iff.rfl
  | y :: ys, p => by
    unfold ddg
    by_cases h : y = p
    · rw [if_pos h, ddg_mem x ys p]; subst h; simp
    · rw [if_neg h, List.mem_cons, ddg_mem x ys y, List.mem_cons]
theorem dd_mem (x : Int) (xs : List Int) : x ∈ dd xs ↔ x ∈ xs := by
  cases xs with
  | nil => exact Iff.rfl
  | cons y ys => simp only [dd, List.mem_cons]; exact ddg_mem x ys y
end Go.AM.SP
set_option linter.all false
set_option autoImplicit false
namespace Go.AM.SP
open Go Go.AM
theorem sp_of {d : D} (h : D.has ty d (.struct [3, 3, 43])) (hw : D.wf d) : ∃ s : Sp, d = s.enc ∧ s.ok := by
  obtain ⟨ds, rfl, hh⟩ := hass_struct h
  clear h
  rw [show [3, 3, 43].map ty = [.int .i64, .int .i64, .struct [41, 3, 3, 3, 9]] from rfl] at hh
  obtain ⟨d0, _, rfl, h0, hh⟩ := hassC hh
  obtain ⟨d1, _, rfl, h1, hh⟩ := hassC hh
  obtain ⟨d2, _, rfl, h2, hh⟩ := hassC hh
  obtain rfl := hass0 hh
  obtain ⟨x0, rfl⟩ := has_int h0
  obtain ⟨x1, rfl⟩ := has_int h1
  obtain ⟨ds, rfl, hh2⟩ := hass_struct h2
  clear hh h2
  rename_i hh
  have hh := hh2
  rw [show [41, 3, 3, 3, 9].map ty = [.int .i64, .int .i64, .int .i64, .int .i64, .str] from rfl] at hh
  obtain ⟨e0, _, rfl, g0, hh⟩ := hassC hh
  obtain ⟨e1, _, rfl, g1, hh⟩ := hassC hh
  obtain ⟨e2, _, rfl, g2, hh⟩ := hassC hh
  obtain ⟨e3, _, rfl, g3, hh⟩ := hassC hh
  obtain ⟨e4, _, rfl, g4, hh⟩ := hassC hh
  obtain rfl := hass0 hh
  obtain ⟨y0, rfl⟩ := has_int g0
  obtain ⟨y1, rfl⟩ := has_int g1
  obtain ⟨y2, rfl⟩ := has_int g2
  obtain ⟨y3, rfl⟩ := has_int g3
  obtain ⟨y4, rfl⟩ := has_str g4
  rw [D.wf] at hw
  simp only [D.wfs] at hw
  obtain ⟨w0, w1, w2, _⟩ := hw
  rw [D.wf] at w2
  simp only [D.wfs] at w2
  exact ⟨⟨x0, x1, y0, y1, y2, y3, y4⟩, rfl, wf_i64 w0, wf_i64 w1, wf_i64 w2.1, wf_i64 w2.2.1, wf_i64 w2.2.2.1, wf_i64 w2.2.2.2.1⟩
theorem ey_of {d : D} (h : D.has ty d (.struct [3, 3, 3, 3])) (hw : D.wf d) : ∃ s : Ey, d = s.enc ∧ s.ok := by
  obtain ⟨ds, rfl, hh⟩ := hass_struct h
  clear h
  rw [show [3, 3, 3, 3].map ty = [.int .i64, .int .i64, .int .i64, .int .i64] from rfl] at hh
  obtain ⟨d0, _, rfl, h0, hh⟩ := hassC hh
  obtain ⟨d1, _, rfl, h1, hh⟩ := hassC hh
  obtain ⟨d2, _, rfl, h2, hh⟩ := hassC hh
  obtain ⟨d3, _, rfl, h3, hh⟩ := hassC hh
  obtain rfl := hass0 hh
  obtain ⟨x0, rfl⟩ := has_int h0
  obtain ⟨x1, rfl⟩ := has_int h1
  obtain ⟨x2, rfl⟩ := has_int h2
  obtain ⟨x3, rfl⟩ := has_int h3
  rw [D.wf] at hw
  simp only [D.wfs] at hw
  exact ⟨⟨x0, x1, x2, x3⟩, rfl, wf_i64 hw.1, wf_i64 hw.2.1, wf_i64 hw.2.2.1, wf_i64 hw.2.2.2.1⟩
theorem int_of {d : D} (h : D.has ty d (.int .i64)) (hw : D.wf d) : ∃ x : Int, d = di x ∧ i64ok x := by
  obtain ⟨x, rfl⟩ := has_int h
  exact ⟨x, rfl, wf_i64 hw⟩
theorem sps_of {d : D} (h : D.has ty d (.slice 45)) (hw : D.wf d) : ∃ (nn : Bool) (l : List Sp), d = dl nn (l.map Sp.enc) ∧ ∀ s ∈ l, s.ok := by
  obtain ⟨nn, ds, rfl, hh, _⟩ := hass_slice h
  rw [D.wf] at hw
  obtain ⟨l, rfl, _, hl⟩ := hass_rep (f := Sp.enc) (Q := Sp.ok) (fun d h hw => sp_of h hw) (n := ds.length) (κ := .struct [3, 3, 43]) hh hw.2
  exact ⟨nn, l, rfl, hl⟩
structure Rt.ok (r : Rt) : Prop where
  map : ∀ e ∈ r.map, e.ok
  gone : ∀ x ∈ r.gone, i64ok x
  mn : r.mn = false → r.map = []
  gn : r.gn = false → r.gone = []
theorem rt_of {d : D} (h : D.has ty d (.struct [23, 24])) (hw : D.wf d) : ∃ r : Rt, d = r.enc ∧ r.ok := by
  obtain ⟨ds, rfl, hh⟩ := hass_struct h
  clear h
  rw [show [23, 24].map ty = [.slice 58, .slice 3] from rfl] at hh
  obtain ⟨d0, _, rfl, h0, hh⟩ := hassC hh
  obtain ⟨d1, _, rfl, h1, hh⟩ := hassC hh
  obtain rfl := hass0 hh
  obtain ⟨mn, ms, rfl, g0, n0⟩ := hass_slice h0
  obtain ⟨gn, gs, rfl, g1, n1⟩ := hass_slice h1
  rw [D.wf] at hw
  simp only [D.wfs] at hw
  obtain ⟨w0, w1, _⟩ := hw
  rw [D.wf] at w0 w1
  obtain ⟨m, rfl, _, hm⟩ := hass_rep (f := Ey.enc) (Q := Ey.ok) (fun d h hw => ey_of h hw) (n := ms.length) (κ := .struct [3, 3, 3, 3]) g0 w0.2
  obtain ⟨g, rfl, _, hg⟩ := hass_rep (f := D.int .i64) (Q := i64ok) (fun d h hw => int_of h hw) (n := gs.length) (κ := .int .i64) g1 w1.2
  exact ⟨⟨mn, m, gn, g⟩, rfl, hm, hg, fun h => by simpa using n0 h, fun h => by simpa using n1 h⟩
theorem ddg_len : ∀ (xs : List Int) (p : Int), (ddg p xs).length ≤ xs.length
  | [], _ => by simp [ddg]
  | y :: ys, p => by
    unfold ddg
    have := ddg_len ys p
    have := ddg_len ys y
    split <;> simp <;> omega
theorem dd_len (xs : List Int) : (dd xs).length ≤ xs.length := by
  cases xs with
  | nil => simp [dd]
  | cons y ys => have := ddg_len ys y; simp [dd]; omega
end Go.AM.SP
set_option linter.all false
set_option autoImplicit false
namespace Go.AM.SP
open Go Go.AM
theorem wrap_i64 {n : Int} (h1 : -9223372036854775808 ≤ n) (h2 : n ≤ 9223372036854775807) : IntKind.i64.wrap n = n := by
  have := ad64 (a := n) (b := 0) (by omega) (by omega)
  simpa [ad] using this
theorem mini_nat (a b : Nat) : mini (a : Int) (b : Int) = ((min a b : Nat) : Int) := by
  unfold mini; split <;> omega
theorem num_total (s : ByteArray) (hs : s.size ≤ 1048576) : ∃ (n : Int) (rest : ByteArray) (ok : Bool), F86.s FUEL s = some (da [di n, dS rest, db ok]) ∧ rest.size ≤ s.size := by
  unfold F86.s
  have hm : mini (nI s.size) 8 = ((min s.size 8 : Nat) : Int) := mini_nat s.size 8
  rw [hm]
  generalize hm' : min s.size 8 = m
  have h1 : m ≤ s.size := by omega
  have h2 : m ≤ 8 := by omega
  refine goS_rule (fun t : F86.S3 => ∃ (k : Nat) (x : Int), t = ⟨s, x, (m : Int), (k : Int), 0, bs [], false⟩ ∧ k ≤ m) (fun t => m - t.i4.toNat) (fun R => ∃ (n : Int) (rest : ByteArray) (ok : Bool), R = some (da [di n, dS rest, db ok]) ∧ rest.size ≤ s.size) ?_ _ _ ⟨0, 0, rfl, by omega⟩ (by simp [FUEL]; omega)
  rintro _ rec ⟨k, x, rfl, hk⟩ hrec
  simp only [F86.st3]
  by_cases hkm : k < m
  · have e1 : ltI (k : Int) (m : Int) = true := by simp; omega
    have e2 : inb (k : Int) s.size = true := by simp; omega
    have e3 : ml .i64 7 (k : Int) = ((7 * k : Nat) : Int) := by
      show IntKind.i64.wrap (7 * (k : Int)) = _
      rw [wrap_i64 (by omega) (by omega)]; omega
    have e4 : ¬ ((7 * k : Nat) : Int) < 0 := by omega
    have hadd : ad .i64 (k : Int) 1 = ((k + 1 : Nat) : Int) := by rw [ad64 (by omega) (by omega)]; rfl
    rw [e1, e2, e3, if_neg e4, hadd]
    simp only [cond_true, bd]
    cases g1 : ltI (byteAt s (k : Int).toNat) 128
    · simp only [cond_false]
      exact hrec _ ⟨k + 1, _, rfl, by omega⟩ (by simp; omega)
    · have e5 : ((leI 0 ((k + 1 : Nat) : Int)) && (leI ((k + 1 : Nat) : Int) (nI s.size)) && (leI (nI s.size) (nI s.size)) && (leI (nI s.size) (nI s.size))) = true := by simp; omega
      rw [e5]
      simp only [cond_true]
      have hsz : ∀ i : Nat, (s.extract i s.size).size ≤ s.size := by intro i; rw [ByteArray.size_extract]; omega
      cases g2 : leI (orI .i64 x (shlI .i64 (cv .i64 (andI .u8 (byteAt s (k : Int).toNat) 127)) ((7 * k : Nat) : Int).toNat)) 1125899906842624
      · simp only [D.i, g2, cond_false]
        exact ⟨_, _, _, rfl, hsz _⟩
      · simp only [D.i, g2, cond_true]
        cases g3 : eqI (k : Int) 0
        · exact ⟨_, _, _, rfl, hsz _⟩
        · exact ⟨_, _, _, rfl, hsz _⟩
  · have e1 : ltI (k : Int) (m : Int) = false := by simp; omega
    rw [e1]
    exact ⟨_, _, _, rfl, Nat.zero_le _⟩
theorem getnum_total (s : ByteArray) (hs : s.size ≤ 1048576) : ∃ (n : Int) (rest : ByteArray) (ok : Bool), F79.s FUEL s = some (D.tup [di n, dS rest, db ok]) ∧ rest.size ≤ s.size := by
  obtain ⟨n, rest, ok, e, h⟩ := num_total s hs
  unfold F79.s
  rw [e]
  cases ok
  · exact ⟨0, bs [], false, rfl, Nat.zero_le _⟩
  · exact ⟨n, rest, true, rfl, h⟩
theorem numbers_total (s : ByteArray) (n : Nat) (hs : s.size ≤ 1048576) (hn : n ≤ 1000) : ∃ (b : Bool) (L : List Int) (rest : ByteArray) (ok : Bool), F78.s FUEL s (n : Int) = some (D.tup [dl b (L.map (D.int .i64)), dS rest, db ok]) ∧ rest.size ≤ s.size ∧ (ok = true → L.length = n) := by
  unfold F78.s
  refine goS_rule (fun t : F78.S3 => ∃ (b : Bool) (L : List Int) (u : ByteArray), t = ⟨dS u, 0, L.length, (n : Int), (L.length : Int), b, L.map (D.int .i64)⟩ ∧ L.length ≤ n ∧ u.size ≤ s.size) (fun t => n - t.i13.toNat) (fun R => ∃ (b : Bool) (L : List Int) (rest : ByteArray) (ok : Bool), R = some (D.tup [dl b (L.map (D.int .i64)), dS rest, db ok]) ∧ rest.size ≤ s.size ∧ (ok = true → L.length = n)) ?_ _ _ ⟨false, [], s, rfl, by simp, by omega⟩ (by simp [FUEL]; omega)
  rintro _ rec ⟨b, L, u, rfl, hL, hu⟩ hrec
  simp only [F78.st3]
  by_cases h1 : L.length < n
  · have e1 : ltI (L.length : Int) (n : Int) = true := by simp; omega
    have hadd : ad .i64 (L.length : Int) 1 = ((L.length + 1 : Nat) : Int) := by rw [ad64 (by omega) (by omega)]; rfl
    rw [e1, hadd]
    simp only [cond_true]
    obtain ⟨x, rest, ok, e, hr⟩ := getnum_total u (by omega)
    have hm : mx (L.length + 1) = true := by simp; omega
    simp only [s_str, e, bd, at_tup, List.getD_cons_zero, List.getD_cons_succ, b_bool, hm, cond_true]
    cases ok
    · exact ⟨false, [], bs [], false, rfl, Nat.zero_le _, by simp⟩
    · simp only [Bool.not_true, cond_false]
      refine hrec _ ⟨b || true, L ++ [x], rest, ?_, by simp; omega, by omega⟩ (by simp; omega)
      rw [List.drop_zero, show (L.map (D.int .i64)).take L.length = L.map (D.int .i64) from List.take_of_length_le (by simp)]
      simp [ap]
  · have e1 : ltI (L.length : Int) (n : Int) = false := by simp; omega
    rw [e1]
    refine ⟨b, L, u, true, ?_, hu, fun _ => by omega⟩
    simp only [cond_false, List.drop_zero]
    rw [show (L.map (D.int .i64)).take L.length = L.map (D.int .i64) from List.take_of_length_le (by simp)]
theorem catS {a b : ByteArray} (h : a.size + b.size ≤ 1073741824) : cat a b = some (dS (a ++ b)) := by
  unfold cat; rw [if_pos (by simp [maxInt]; omega)]
theorem whole_total (nn : Bool) (l : List ByteArray) (hl : l.length ≤ 1000) (ht : ∀ x ∈ l, x.size ≤ 1000) : ∃ (u : ByteArray) (long : Int) (ok : Bool), F50.s FUEL (dl nn (l.map dS)) = some (D.tup [dS u, di long, db ok]) ∧ u.size ≤ 1000000 := by
  unfold F50.s
  refine goS_rule (fun t : F50.S3 => ∃ (k : Nat) (u : ByteArray) (long : Int), t = ⟨dl nn (l.map dS), dS u, long, dl nn (l.map dS), (l.length : Int), (k : Int)⟩ ∧ k ≤ l.length ∧ u.size ≤ 1000 * k) (fun t => l.length - t.i16.toNat) (fun R => ∃ (u : ByteArray) (long : Int) (ok : Bool), R = some (D.tup [dS u, di long, db ok]) ∧ u.size ≤ 1000000) ?_ _ _ ⟨0, bs [], 0, by simp, by omega, by simp [bs, ByteArray.size]⟩ (by simp [FUEL]; omega)
  rintro _ rec ⟨k, u, long, rfl, hk, hu⟩ hrec
  simp only [F50.st3]
  by_cases h1 : k < l.length
  · have hx : ix (dl nn (l.map dS)).elems (k : Int).toNat = dS l[k] := ix_map h1
    have e1 : ltI (k : Int) (l.length : Int) = true := by simp; omega
    have e2 : inb (k : Int) (dl nn (l.map dS)).elems.length = true := by simp; omega
    have hadd : ad .i64 (k : Int) 1 = ((k + 1 : Nat) : Int) := by rw [ad64 (by omega) (by omega)]; rfl
    have hsz : l[k].size ≤ 1000 := ht _ (List.getElem_mem _)
    rw [e1, e2, hx, hadd]
    simp only [cond_true]
    obtain ⟨b, L, rest, ok, e, hr, hL⟩ := numbers_total l[k] 2 (by omega) (by omega)
    have e' : F78.s FUEL l[k] 2 = some (D.tup [dl b (L.map (D.int .i64)), dS rest, db ok]) := e
    simp only [s_str, e', bd, at_tup, List.getD_cons_zero, List.getD_cons_succ, b_bool, elems_slice]
    have stop : ∃ (u' : ByteArray) (long' : Int) (ok : Bool), (some (D.tup [dS (bs []), di 0, db false]) : Option D) = some (D.tup [dS u', di long', db ok]) ∧ u'.size ≤ 1000000 := ⟨_, _, _, rfl, Nat.zero_le _⟩
    cases ok
    · exact stop
    · have hL' := hL rfl
      have i0 : inb 0 (L.map (D.int .i64)).length = true := by simp; omega
      have i1 : inb 1 (L.map (D.int .i64)).length = true := by simp; omega
      simp only [Bool.not_true, cond_false, i0, i1, cond_true]
      have go : ∀ lg : Int, ∃ (u' : ByteArray) (long' : Int) (ok : Bool), (bd (cat u rest) fun r => rec ⟨dl nn (l.map dS), r, lg, dl nn (l.map dS), (l.length : Int), ((k + 1 : Nat) : Int)⟩) = some (D.tup [dS u', di long', db ok]) ∧ u'.size ≤ 1000000 := by
        intro lg
        rw [catS (by omega)]
        exact hrec _ ⟨k + 1, u ++ rest, lg, rfl, by omega, by rw [ByteArray.size_append]; omega⟩ (by simp; omega)
      cases g1 : neI (ix (L.map (D.int .i64)) 0).i (k : Int)
      · simp only [cond_false]
        cases g2 : neI (ix (L.map (D.int .i64)) 1).i (nI (l.map dS).length)
        · simp only [cond_false]
          cases g3 : eqI (k : Int) 0
          · simp only [cond_false]
            cases g4 : gtI (nI rest.size) long
            · simp only [cond_false]
              cases g5 : eqI (nI rest.size) 0
              · simp only [cond_false]
                cases g6 : ltI (k : Int) (sb .i64 (nI (l.map dS).length) 1)
                · exact go _
                · simp only [cond_true]
                  cases g7 : ltI (nI rest.size) long
                  · exact go _
                  · exact stop
              · exact stop
            · exact stop
          · exact go _
        · exact stop
      · exact stop
  · have e1 : ltI (k : Int) (l.length : Int) = false := by simp; omega
    rw [e1]
    exact ⟨u, long, true, rfl, by omega⟩
def withinB (n high : Int) : Bool := decide (0 ≤ n) && decide (n ≤ high)
theorem within_ok (n high : Int) : F68.s FUEL n high = some (db (withinB n high)) := by
  unfold F68.s withinB
  by_cases h : 0 ≤ n
  · simp [geI, leI, h]
  · simp [geI, h]
def eyOdd (e : Ey) : Bool := !withinB e.logic 1099511627776 || !withinB e.owner 1099511627776 || !withinB e.block 63 || !withinB e.at_ 31
theorem eyOdd_ok (e : Ey) : F67.s FUEL e.enc = some (db (eyOdd e)) := by
  have a0 : (e.enc.at 0).i = e.logic := rfl
  have a1 : (e.enc.at 1).i = e.owner := rfl
  have a2 : (e.enc.at 2).i = e.block := rfl
  have a3 : (e.enc.at 3).i = e.at_ := rfl
  unfold F67.s eyOdd
  rw [a0, a1, a2, a3]
  refine bdS (within_ok _ _) ?_
  cases withinB e.logic 1099511627776
  · rfl
  refine cf rfl (bdS (within_ok _ _) ?_)
  cases withinB e.owner 1099511627776
  · rfl
  refine cf rfl (bdS (within_ok _ _) ?_)
  cases withinB e.block 63
  · rfl
  refine cf rfl (bdS (within_ok _ _) ?_)
  cases withinB e.at_ 31 <;> rfl
def risB : List Int → Bool
  | [] => true
  | [_] => true
  | a :: b :: l => decide (a < b) && risB (b :: l)
theorem risB_snoc (a b : Int) : ∀ ys : List Int, risB (ys ++ [a, b]) = (risB (ys ++ [a]) && decide (a < b))
  | [] => by simp [risB]
  | [y] => by simp [risB]
  | y :: z :: ys => by
    have := risB_snoc a b (z :: ys)
    simp only [List.cons_append, risB] at this ⊢
    rw [this, Bool.and_assoc]
theorem risB_take {xs : List Int} {n : Nat} (h1 : 1 ≤ n) (h2 : n < xs.length) : risB (xs.take (n + 1)) = (risB (xs.take n) && decide (xs[n - 1] < xs[n])) := by
  obtain ⟨m, rfl⟩ : ∃ m, n = m + 1 := ⟨n - 1, by omega⟩
  have e1 : xs.take (m + 1) = xs.take m ++ [xs[m]] := List.take_succ_eq_append_getElem (by omega)
  have e2 : xs.take (m + 1 + 1) = xs.take m ++ [xs[m], xs[m + 1]] := by
    rw [List.take_succ_eq_append_getElem (by omega), e1, List.append_assoc]; rfl
  rw [e1, e2, risB_snoc]; simp
theorem risB_pre {xs : List Int} : ∀ n, risB (xs.take n) = false → risB xs = false := by
  have key : ∀ (xs : List Int) n, risB xs = true → risB (xs.take n) = true := by
    intro xs
    induction xs with
    | nil => intro n h; simpa using h
    | cons a l ih =>
      intro n h
      match n, l with
      | 0, _ => rfl
      | 1, _ => rfl
      | n + 2, [] => rfl
      | n + 2, b :: l =>
        simp only [risB, Bool.and_eq_true] at h
        simp only [List.take_succ_cons, risB, Bool.and_eq_true]
        exact ⟨h.1, by simpa using ih (n + 1) h.2⟩
  intro n h
  cases hx : risB xs
  · rfl
  · rw [key xs n hx] at h; simp at h
def validB (m : List Ey) (g : List Int) : Bool :=
  decide (m.length ≤ 400) && decide (g.length ≤ 100) && !m.any eyOdd && !g.any (fun n => !withinB n 1099511627776) && risB (m.map Ey.logic) && risB g
theorem F41_a (mn : Bool) (m : List Ey) (d : D) (hm : m.length ≤ 1048576) (K : F41.X36_2 → Option D) :
    (m.any eyOdd = true ∧ ∃ k : Nat, goS (F41.st36_2 FUEL) FUEL ⟨dl mn (m.map Ey.enc), (nI (dl mn (m.map Ey.enc)).elems.length), 0, d⟩ K = K (.e0 k d)) ∨
    (m.any eyOdd = false ∧ goS (F41.st36_2 FUEL) FUEL ⟨dl mn (m.map Ey.enc), (nI (dl mn (m.map Ey.enc)).elems.length), 0, d⟩ K = K (.e1 d)) := by
  refine goS_rule (fun t : F41.S36_2 => ∃ k : Nat, t = ⟨dl mn (m.map Ey.enc), (m.length : Int), (k : Int), d⟩ ∧ k ≤ m.length ∧ (m.take k).any eyOdd = false) (fun t => m.length - t.i3.toNat) (fun R => (m.any eyOdd = true ∧ ∃ k : Nat, R = K (.e0 k d)) ∨ (m.any eyOdd = false ∧ R = K (.e1 d))) ?_ _ _ ⟨0, by simp, by omega, by simp⟩ (by simp [FUEL]; omega)
  rintro _ rec ⟨k, rfl, hk, ha⟩ hrec
  simp only [F41.st36_2]
  by_cases h1 : k < m.length
  · have hx : ix (dl mn (m.map Ey.enc)).elems (k : Int).toNat = m[k].enc := ix_map h1
    have e1 : ltI (k : Int) (m.length : Int) = true := by simp; omega
    have e2 : inb (k : Int) (dl mn (m.map Ey.enc)).elems.length = true := by simp; omega
    have hadd : ad .i64 (k : Int) 1 = ((k + 1 : Nat) : Int) := by rw [ad64 (by omega) (by omega)]; rfl
    rw [e1, e2, hx, hadd, eyOdd_ok]
    simp only [cond_true, bd, b_bool]
    cases ho : eyOdd m[k]
    · simp only [cond_false]
      refine hrec _ ⟨k + 1, rfl, by omega, ?_⟩ (by simp; omega)
      rw [List.take_succ_eq_append_getElem h1, List.any_append, ha]; simp [ho]
    · exact .inl ⟨List.any_eq_true.2 ⟨m[k], List.getElem_mem _, ho⟩, k, rfl⟩
  · have e1 : ltI (k : Int) (m.length : Int) = false := by simp; omega
    rw [e1]
    have hkl : k = m.length := by omega
    subst hkl
    rw [take_all] at ha
    exact .inr ⟨ha, rfl⟩
def goneOdd (n : Int) : Bool := !withinB n 1099511627776
theorem F41_b (gn : Bool) (g : List Int) (d : D) (hm : g.length ≤ 1048576) (K : F41.X55_2 → Option D) :
    (g.any goneOdd = true ∧ ∃ k : Nat, goS (F41.st55_2 FUEL) FUEL ⟨dl gn (g.map (D.int .i64)), (nI (dl gn (g.map (D.int .i64))).elems.length), 0, d⟩ K = K (.e0 k d)) ∨
    (g.any goneOdd = false ∧ goS (F41.st55_2 FUEL) FUEL ⟨dl gn (g.map (D.int .i64)), (nI (dl gn (g.map (D.int .i64))).elems.length), 0, d⟩ K = K (.e1 d)) := by
  refine goS_rule (fun t : F41.S55_2 => ∃ k : Nat, t = ⟨dl gn (g.map (D.int .i64)), (g.length : Int), (k : Int), d⟩ ∧ k ≤ g.length ∧ (g.take k).any goneOdd = false) (fun t => g.length - t.i8.toNat) (fun R => (g.any goneOdd = true ∧ ∃ k : Nat, R = K (.e0 k d)) ∨ (g.any goneOdd = false ∧ R = K (.e1 d))) ?_ _ _ ⟨0, by simp, by omega, by simp⟩ (by simp [FUEL]; omega)
  rintro _ rec ⟨k, rfl, hk, ha⟩ hrec
  simp only [F41.st55_2]
  by_cases h1 : k < g.length
  · have hx : ix (dl gn (g.map (D.int .i64))).elems (k : Int).toNat = di g[k] := ix_map h1
    have e1 : ltI (k : Int) (g.length : Int) = true := by simp; omega
    have e2 : inb (k : Int) (dl gn (g.map (D.int .i64))).elems.length = true := by simp; omega
    have hadd : ad .i64 (k : Int) 1 = ((k + 1 : Nat) : Int) := by rw [ad64 (by omega) (by omega)]; rfl
    have ho9 : F69.s FUEL g[k] = some (db (goneOdd g[k])) := by unfold F69.s; rw [within_ok]; rfl
    rw [e1, e2, hx, hadd]
    simp only [cond_true, i_int, ho9, bd, b_bool]
    cases ho : goneOdd g[k]
    · simp only [cond_false]
      refine hrec _ ⟨k + 1, rfl, by omega, ?_⟩ (by simp; omega)
      rw [List.take_succ_eq_append_getElem h1, List.any_append, ha]; simp [ho]
    · exact .inl ⟨List.any_eq_true.2 ⟨g[k], List.getElem_mem _, ho⟩, k, rfl⟩
  · have e1 : ltI (k : Int) (g.length : Int) = false := by simp; omega
    rw [e1]
    have hkl : k = g.length := by omega
    subst hkl
    rw [take_all] at ha
    exact .inr ⟨ha, rfl⟩
theorem F41_c (mn : Bool) (m : List Ey) (d : D) (hm : m.length ≤ 1048576) (K : F41.X71_2 → Option D) :
    goS (F41.st71_2 FUEL) FUEL ⟨dl mn (m.map Ey.enc), (nI (dl mn (m.map Ey.enc)).elems.length), 0, d⟩ K = bif risB (m.map Ey.logic) then K (.e1 d) else K (.e0 d) := by
  refine goS_rule (fun t : F41.S71_2 => ∃ k : Nat, t = ⟨dl mn (m.map Ey.enc), (m.length : Int), (k : Int), d⟩ ∧ k ≤ m.length ∧ risB ((m.map Ey.logic).take k) = true) (fun t => m.length - t.i13.toNat) (fun R => R = bif risB (m.map Ey.logic) then K (.e1 d) else K (.e0 d)) ?_ _ _ ⟨0, by simp, by omega, rfl⟩ (by simp [FUEL]; omega)
  rintro _ rec ⟨k, rfl, hk, ha⟩ hrec
  simp only [F41.st71_2]
  by_cases h1 : k < m.length
  · have e1 : ltI (k : Int) (m.length : Int) = true := by simp; omega
    have hadd : ad .i64 (k : Int) 1 = ((k + 1 : Nat) : Int) := by rw [ad64 (by omega) (by omega)]; rfl
    rw [e1, hadd]
    simp only [cond_true]
    by_cases h0 : k = 0
    · subst h0
      refine cf (by simp) ?_
      refine hrec _ ⟨1, rfl, by omega, ?_⟩ (by simp; omega)
      match m with
      | [] => rfl
      | a :: m => rfl
    · refine ct (by simp; omega) ?_
      have hsb : sb .i64 (k : Int) 1 = ((k - 1 : Nat) : Int) := by rw [sb64 (by omega) (by omega)]; omega
      have hx1 : ix (dl mn (m.map Ey.enc)).elems (k : Int).toNat = m[k].enc := ix_map h1
      have hx2 : ix (dl mn (m.map Ey.enc)).elems ((k - 1 : Nat) : Int).toNat = m[k - 1].enc := ix_map (by omega)
      rw [hsb, hx1, hx2]
      refine ct (by simp; omega) ?_
      have l1 : F34.s FUEL m[k - 1].enc = some (di m[k - 1].logic) := rfl
      have l2 : F34.s FUEL m[k].enc = some (di m[k].logic) := rfl
      rw [l1, l2]
      simp only [bd]
      refine ct (by simp; omega) ?_
      have hst := risB_take (xs := m.map Ey.logic) (n := k) (by omega) (by simpa using h1)
      rw [ha] at hst
      simp only [List.getElem_map, Bool.true_and] at hst
      cases g : geI (di m[k - 1].logic).i (di m[k].logic).i
      · simp only [cond_false]
        refine hrec _ ⟨k + 1, rfl, by omega, ?_⟩ (by simp; omega)
        rw [hst]; simp at g; simp; omega
      · simp only [cond_true]
        have : risB (m.map Ey.logic) = false := by
          refine risB_pre (k + 1) ?_
          rw [hst]; simp at g; simp; omega
        rw [this]; rfl
  · have e1 : ltI (k : Int) (m.length : Int) = false := by simp; omega
    rw [e1]
    rw [List.take_of_length_le (by simp; omega)] at ha
    rw [ha]; rfl
theorem F41_d (gn : Bool) (g : List Int) (d : D) (hm : g.length ≤ 1048576) (K : F41.X72_2 → Option D) :
    goS (F41.st72_2 FUEL) FUEL ⟨dl gn (g.map (D.int .i64)), (nI (dl gn (g.map (D.int .i64))).elems.length), 0, d⟩ K = bif risB g then K (.e1 d) else K (.e0 d) := by
  refine goS_rule (fun t : F41.S72_2 => ∃ k : Nat, t = ⟨dl gn (g.map (D.int .i64)), (g.length : Int), (k : Int), d⟩ ∧ k ≤ g.length ∧ risB (g.take k) = true) (fun t => g.length - t.i19.toNat) (fun R => R = bif risB g then K (.e1 d) else K (.e0 d)) ?_ _ _ ⟨0, by simp, by omega, rfl⟩ (by simp [FUEL]; omega)
  rintro _ rec ⟨k, rfl, hk, ha⟩ hrec
  simp only [F41.st72_2]
  by_cases h1 : k < g.length
  · have e1 : ltI (k : Int) (g.length : Int) = true := by simp; omega
    have hadd : ad .i64 (k : Int) 1 = ((k + 1 : Nat) : Int) := by rw [ad64 (by omega) (by omega)]; rfl
    rw [e1, hadd]
    simp only [cond_true]
    by_cases h0 : k = 0
    · subst h0
      refine cf (by simp) ?_
      refine hrec _ ⟨1, rfl, by omega, ?_⟩ (by simp; omega)
      match g with
      | [] => rfl
      | a :: g => rfl
    · refine ct (by simp; omega) ?_
      have hsb : sb .i64 (k : Int) 1 = ((k - 1 : Nat) : Int) := by rw [sb64 (by omega) (by omega)]; omega
      have hx1 : ix (dl gn (g.map (D.int .i64))).elems (k : Int).toNat = di g[k] := ix_map h1
      have hx2 : ix (dl gn (g.map (D.int .i64))).elems ((k - 1 : Nat) : Int).toNat = di g[k - 1] := ix_map (by omega)
      rw [hsb, hx1, hx2]
      refine ct (by simp; omega) ?_
      simp only [F73.s, i_int, bd]
      refine ct (by simp; omega) ?_
      have hst := risB_take (xs := g) (n := k) (by omega) h1
      rw [ha] at hst
      simp only [Bool.true_and] at hst
      cases gg : geI g[k - 1] g[k]
      · simp only [cond_false]
        refine hrec _ ⟨k + 1, rfl, by omega, ?_⟩ (by simp; omega)
        rw [hst]; simp at gg; simp; omega
      · simp only [cond_true]
        have : risB g = false := by
          refine risB_pre (k + 1) ?_
          rw [hst]; simp at gg; simp; omega
        rw [this]; rfl
  · have e1 : ltI (k : Int) (g.length : Int) = false := by simp; omega
    rw [e1]
    rw [List.take_of_length_le (by omega)] at ha
    rw [ha]; rfl
theorem valid_ok (r : Rt) : F41.s FUEL r.enc = some (db (validB r.map r.gone)) := by
  unfold F41.s validB
  have h0 : r.enc.at 0 = dl r.mn (r.map.map Ey.enc) := rfl
  have h1 : r.enc.at 1 = dl r.gn (r.gone.map (D.int .i64)) := rfl
  rw [h0, h1]
  by_cases hm : r.map.length ≤ 400
  · refine ct (by simp; omega) ?_
    by_cases hg : r.gone.length ≤ 100
    · refine ct (by simp; omega) ?_
      have hcd : ∀ K : F41.X71_2 → Option D, (K (.e0 r.enc) = some (db false)) → (K (.e1 r.enc) = goS (F41.st72_2 FUEL) FUEL ⟨r.enc.at 1, (nI (r.enc.at 1).elems.length), 0, r.enc⟩ fun x => match x with | .e0 d20 => (some (db false)) | .e1 d20 => (some (db true))) →
          goS (F41.st71_2 FUEL) FUEL ⟨r.enc.at 0, (nI (r.enc.at 0).elems.length), 0, r.enc⟩ K = some (db (risB (r.map.map Ey.logic) && risB r.gone)) := by
        intro K k0 k1
        rw [h0, F41_c r.mn r.map r.enc (by omega) K]
        cases risB (r.map.map Ey.logic)
        · exact k0
        · refine k1.trans ?_
          rw [h1, F41_d r.gn r.gone r.enc (by omega) _]
          cases risB r.gone <;> rfl
      have e1 : decide (r.map.length ≤ 400) = true := by simp; omega
      have e2 : decide (r.gone.length ≤ 100) = true := by simp; omega
      rw [e1, e2]
      rcases F41_a r.mn r.map r.enc (by omega) _ with ⟨ha, k, e⟩ | ⟨ha, e⟩
      · refine e.trans ?_
        rw [ha]
        refine cf (by simp) (by simp)
      · refine e.trans ?_
        rw [ha]
        rcases F41_b r.gn r.gone r.enc (by omega) _ with ⟨hb, k, e'⟩ | ⟨hb, e'⟩
        · refine e'.trans ?_
          rw [show r.gone.any (fun n => !withinB n 1099511627776) = true from hb]
          refine cf (by simp) (by simp)
        · refine e'.trans ?_
          rw [show r.gone.any (fun n => !withinB n 1099511627776) = false from hb]
          refine (hcd _ rfl rfl).trans ?_
          simp
    · refine cf (by simp; omega) ?_
      have e2 : decide (r.gone.length ≤ 100) = false := by simp; omega
      rw [e2]; simp
  · refine cf (by simp; omega) ?_
    have e2 : decide (r.map.length ≤ 400) = false := by simp; omega
    rw [e2]; simp
def getTail (u : ByteArray) : Option D :=
  (bd (F79.s FUEL u) fun r43 => (cond (!(r43.at 2).b) (some (D.tup [(da [(dl false []), (dl false [])]), (db false)])) (cond (gtI (r43.at 0).i 400) (some (D.tup [(da [(dl false []), (dl false [])]), (db false)])) (goS (F35.st51_6 FUEL) FUEL ⟨(r43.at 1), 4, 0, 0, (r43.at 0), 0, false, [], false, [], false, [], false, [], false, []⟩ fun x : F35.X51_6 => match x with | .e0 d3 n5 n6 b9 l10 b11 l12 b13 l14 b15 l16 b17 l18 => (some (D.tup [(da [(dl false []), (dl false [])]), (db false)])) | .e1 d3 n5 n6 b9 l10 b11 l12 b13 l14 b15 l16 b17 l18 => (bd (F79.s FUEL d3.s) fun r44 => (cond (!(r44.at 2).b) (some (D.tup [(da [(dl false []), (dl false [])]), (db false)])) (cond (gtI (r44.at 0).i 100) (some (D.tup [(da [(dl false []), (dl false [])]), (db false)])) (goS (F35.st53_6 FUEL) FUEL ⟨(r44.at 1), 1, 0, 0, (r44.at 0), 0, b9, l10, b11, l12, n5, n6, b15, l16, b17, l18, false, []⟩ fun x : F35.X53_6 => match x with | .e0 d22 n24 n25 b28 l29 b30 l31 n32 n33 b34 l35 b36 l37 b38 l39 => (some (D.tup [(da [(dl false []), (dl false [])]), (db false)])) | .e1 d22 n24 n25 b28 l29 b30 l31 n32 n33 b34 l35 b36 l37 b38 l39 => (cond (!(eqS d22.s (bs []))) (some (D.tup [(da [(dl false []), (dl false [])]), (db false)])) (bd (F41.s FUEL (da [(dl b36 ((l37.drop n32).take n33)), (dl b38 ((l39.drop n24).take n25))])) fun r45 => (cond (!r45.b) (some (D.tup [(da [(dl false []), (dl false [])]), (db false)])) (some (D.tup [(da [(dl b36 ((l37.drop n32).take n33)), (dl b38 ((l39.drop n24).take n25))]), (db true)])))))))))))))
theorem F35_map (n : Int) (hn : n ≤ 400) (u : ByteArray) (hu : u.size ≤ 1048576) (d : D) (hd : d.i = n) (b9 b11 b13 b15 : Bool) (l10 l12 l14 l16 : List D) (K : F35.X51_6 → Option D) :
    ∃ (u' : ByteArray) (b : Bool) (L : List Ey), u'.size ≤ u.size ∧ L.length ≤ 400 ∧
      (goS (F35.st51_6 FUEL) FUEL ⟨dS u, 4, 0, 0, d, 0, b9, l10, b11, l12, b13, l14, b15, l16, false, []⟩ K = K (.e0 (dS u') 0 L.length b9 l10 b11 l12 b13 l14 b15 l16 b (L.map Ey.enc)) ∨
       goS (F35.st51_6 FUEL) FUEL ⟨dS u, 4, 0, 0, d, 0, b9, l10, b11, l12, b13, l14, b15, l16, false, []⟩ K = K (.e1 (dS u') 0 L.length b9 l10 b11 l12 b13 l14 b15 l16 b (L.map Ey.enc))) := by
  refine goS_rule (fun t : F35.S51_6 => ∃ (v : ByteArray) (b : Bool) (L : List Ey), t = ⟨dS v, 4, 0, L.length, d, (L.length : Int), b9, l10, b11, l12, b13, l14, b15, l16, b, L.map Ey.enc⟩ ∧ v.size ≤ u.size ∧ L.length ≤ 400) (fun t => 400 - t.i8.toNat)
    (fun R => ∃ (u' : ByteArray) (b : Bool) (L : List Ey), u'.size ≤ u.size ∧ L.length ≤ 400 ∧ (R = K (.e0 (dS u') 0 L.length b9 l10 b11 l12 b13 l14 b15 l16 b (L.map Ey.enc)) ∨ R = K (.e1 (dS u') 0 L.length b9 l10 b11 l12 b13 l14 b15 l16 b (L.map Ey.enc)))) ?_ _ _ ⟨u, false, [], rfl, by omega, by simp⟩ (by simp [FUEL])
  rintro _ rec ⟨v, b, L, rfl, hv, hL⟩ hrec
  simp only [F35.st51_6, hd]
  by_cases h1 : (L.length : Int) < n
  · have e1 : ltI (L.length : Int) n = true := by simp; omega
    have hadd : ad .i64 (L.length : Int) 1 = ((L.length + 1 : Nat) : Int) := by rw [ad64 (by omega) (by omega)]; rfl
    rw [e1, hadd]
    simp only [cond_true]
    obtain ⟨b', ns, rest, ok, e, hr, hlen⟩ := numbers_total v 4 (by omega) (by omega)
    have e' : F78.s FUEL v 4 = some (D.tup [dl b' (ns.map (D.int .i64)), dS rest, db ok]) := e
    have hm : mx (L.length + 1) = true := by simp; omega
    simp only [s_str, e', bd, at_tup, List.getD_cons_zero, List.getD_cons_succ, b_bool, hm, cond_true]
    cases ok
    · exact ⟨v, b, L, hv, hL, .inl rfl⟩
    simp only [Bool.not_true, cond_false]
    have h4 := hlen rfl
    match ns, h4 with
    | [x0, x1, x2, x3], _ =>
      have e5 : F52.s FUEL (dl b' ([x0, x1, x2, x3].map (D.int .i64))) = some (Ey.enc ⟨x0, x1, x2, x3⟩) := rfl
      simp only [e5]
      refine hrec _ ⟨rest, b || true, L ++ [⟨x0, x1, x2, x3⟩], ?_, by omega, by simp; omega⟩ (by simp; omega)
      rw [List.drop_zero, show (L.map Ey.enc).take L.length = L.map Ey.enc from List.take_of_length_le (by simp)]
      simp [ap]
  · have e1 : ltI (L.length : Int) n = false := by simp; omega
    rw [e1]
    exact ⟨v, b, L, hv, hL, .inr rfl⟩
theorem F35_gone (n : Int) (hn : n ≤ 100) (u : ByteArray) (hu : u.size ≤ 1048576) (d : D) (hd : d.i = n) (b9 b11 b13 b15 : Bool) (l10 l12 l14 l16 : List D) (n1 n2 : Nat) (K : F35.X53_6 → Option D) :
    ∃ (u' : ByteArray) (b : Bool) (L : List Int), u'.size ≤ u.size ∧ L.length ≤ 100 ∧
      (goS (F35.st53_6 FUEL) FUEL ⟨dS u, 1, 0, 0, d, 0, b9, l10, b11, l12, n1, n2, b13, l14, b15, l16, false, []⟩ K = K (.e0 (dS u') 0 L.length b9 l10 b11 l12 n1 n2 b13 l14 b15 l16 b (L.map (D.int .i64))) ∨
       goS (F35.st53_6 FUEL) FUEL ⟨dS u, 1, 0, 0, d, 0, b9, l10, b11, l12, n1, n2, b13, l14, b15, l16, false, []⟩ K = K (.e1 (dS u') 0 L.length b9 l10 b11 l12 n1 n2 b13 l14 b15 l16 b (L.map (D.int .i64)))) := by
  refine goS_rule (fun t : F35.S53_6 => ∃ (v : ByteArray) (b : Bool) (L : List Int), t = ⟨dS v, 1, 0, L.length, d, (L.length : Int), b9, l10, b11, l12, n1, n2, b13, l14, b15, l16, b, L.map (D.int .i64)⟩ ∧ v.size ≤ u.size ∧ L.length ≤ 100) (fun t => 100 - t.i27.toNat)
    (fun R => ∃ (u' : ByteArray) (b : Bool) (L : List Int), u'.size ≤ u.size ∧ L.length ≤ 100 ∧ (R = K (.e0 (dS u') 0 L.length b9 l10 b11 l12 n1 n2 b13 l14 b15 l16 b (L.map (D.int .i64))) ∨ R = K (.e1 (dS u') 0 L.length b9 l10 b11 l12 n1 n2 b13 l14 b15 l16 b (L.map (D.int .i64))))) ?_ _ _ ⟨u, false, [], rfl, by omega, by simp⟩ (by simp [FUEL])
  rintro _ rec ⟨v, b, L, rfl, hv, hL⟩ hrec
  simp only [F35.st53_6, hd]
  by_cases h1 : (L.length : Int) < n
  · have e1 : ltI (L.length : Int) n = true := by simp; omega
    have hadd : ad .i64 (L.length : Int) 1 = ((L.length + 1 : Nat) : Int) := by rw [ad64 (by omega) (by omega)]; rfl
    rw [e1, hadd]
    simp only [cond_true]
    obtain ⟨b', ns, rest, ok, e, hr, hlen⟩ := numbers_total v 1 (by omega) (by omega)
    have e' : F78.s FUEL v 1 = some (D.tup [dl b' (ns.map (D.int .i64)), dS rest, db ok]) := e
    have hm : mx (L.length + 1) = true := by simp; omega
    simp only [s_str, e', bd, at_tup, List.getD_cons_zero, List.getD_cons_succ, b_bool, hm, cond_true]
    cases ok
    · exact ⟨v, b, L, hv, hL, .inl rfl⟩
    simp only [Bool.not_true, cond_false]
    have h4 := hlen rfl
    match ns, h4 with
    | [x0], _ =>
      have e5 : F54.s FUEL (dl b' ([x0].map (D.int .i64))) = some (di x0) := rfl
      simp only [e5]
      refine hrec _ ⟨rest, b || true, L ++ [x0], ?_, by omega, by simp; omega⟩ (by simp; omega)
      rw [List.drop_zero, show (L.map (D.int .i64)).take L.length = L.map (D.int .i64) from List.take_of_length_le (by simp)]
      simp [ap]
  · have e1 : ltI (L.length : Int) n = false := by simp; omega
    rw [e1]
    exact ⟨v, b, L, hv, hL, .inr rfl⟩
def noRt : Rt := ⟨false, [], false, []⟩
theorem ctP {P : Option D → Prop} {c : Bool} {a b : Option D} (h : c = true) (k : P a) : P (cond c a b) := by subst h; exact k
theorem cfP {P : Option D → Prop} {c : Bool} {a b : Option D} (h : c = false) (k : P b) : P (cond c a b) := by subst h; exact k
theorem bdP {P : Option D → Prop} {o : Option D} {x : D} {f : D → Option D} (h : o = some x) (k : P (f x)) : P (bd o f) := by subst h; exact k
def GetP (R : Option D) : Prop := ∃ (r : Rt) (ok : Bool), R = some (D.tup [r.enc, db ok]) ∧ r.map.length ≤ 400 ∧ r.gone.length ≤ 100 ∧ (ok = false → r = noRt)
theorem getTail_total (u : ByteArray) (hu : u.size ≤ 1000000) : GetP (getTail u) := by
  have stop : GetP (some (D.tup [(da [(dl false []), (dl false [])]), (db false)])) := ⟨noRt, false, rfl, by simp [noRt], by simp [noRt], fun _ => rfl⟩
  unfold getTail
  obtain ⟨n, rest, ok, e, hr⟩ := getnum_total u (by omega)
  refine bdP e ?_
  cases ok
  · exact stop
  refine cfP rfl ?_
  by_cases hn : n ≤ 400
  · refine cfP (by simp; omega) ?_
    obtain ⟨u', b, L, g1, g2, g3 | g3⟩ := F35_map n hn rest (by omega) (di n) rfl false false false false [] [] [] [] _
    · rw [show (D.tup [di n, dS rest, db true]).at 1 = dS rest from rfl, show (D.tup [di n, dS rest, db true]).at 0 = di n from rfl]
      rw [g3]; exact stop
    · rw [show (D.tup [di n, dS rest, db true]).at 1 = dS rest from rfl, show (D.tup [di n, dS rest, db true]).at 0 = di n from rfl]
      rw [g3]
      obtain ⟨n2, rest2, ok2, e2, hr2⟩ := getnum_total u' (by omega)
      refine bdP e2 ?_
      cases ok2
      · exact stop
      refine cfP rfl ?_
      by_cases hn2 : n2 ≤ 100
      · refine cfP (by simp; omega) ?_
        obtain ⟨u3, b3, L3, k1, k2, k3 | k3⟩ := F35_gone n2 hn2 rest2 (by omega) (di n2) rfl false false false b [] [] [] (L.map Ey.enc) 0 L.length _
        · rw [show (D.tup [di n2, dS rest2, db true]).at 1 = dS rest2 from rfl, show (D.tup [di n2, dS rest2, db true]).at 0 = di n2 from rfl]
          rw [k3]; exact stop
        · rw [show (D.tup [di n2, dS rest2, db true]).at 1 = dS rest2 from rfl, show (D.tup [di n2, dS rest2, db true]).at 0 = di n2 from rfl]
          rw [k3]
          cases hq : eqS u3 (bs [])
          · refine ctP (by show (!(eqS u3 (bs []))) = true; rw [hq]; rfl) stop
          · refine cfP (by show (!(eqS u3 (bs []))) = false; rw [hq]; rfl) ?_
            have hroot : da [dl b (((L.map Ey.enc).drop 0).take L.length), dl b3 (((L3.map (D.int .i64)).drop 0).take L3.length)] = Rt.enc ⟨b, L, b3, L3⟩ := by
              rw [List.drop_zero, List.drop_zero, List.take_of_length_le (by simp), List.take_of_length_le (by simp)]; rfl
            rw [hroot]
            refine bdP (valid_ok _) ?_
            cases hv : validB L L3
            · exact ctP (by simp [hv]) stop
            · exact cfP (by simp [hv]) ⟨⟨b, L, b3, L3⟩, true, rfl, g2, k2, by simp⟩
      · exact ctP (by simp; omega) stop
  · exact ctP (by simp; omega) stop
theorem get_total (nn : Bool) (l : List ByteArray) (hl : l.length ≤ 1000) (ht : ∀ x ∈ l, x.size ≤ 1000) : GetP (F35.s FUEL (dl nn (l.map dS))) := by
  have stop : GetP (some (D.tup [(da [(dl false []), (dl false [])]), (db false)])) := ⟨noRt, false, rfl, by simp [noRt], by simp [noRt], fun _ => rfl⟩
  unfold F35.s
  obtain ⟨u, long, ok, e, hu⟩ := whole_total nn l hl ht
  refine bdP e ?_
  cases ok
  · exact stop
  refine cfP rfl ?_
  have htail := getTail_total u (by omega)
  by_cases h1 : long ≤ 218
  · refine cfP (by simp; omega) ?_
    by_cases h2 : 1 < l.length
    · refine ctP (by simp; omega) ?_
      by_cases h3 : long < 2
      · exact ctP (by simp; omega) stop
      · refine cfP (by simp; omega) ?_
        exact htail
    · refine cfP (by simp; omega) ?_
      exact htail
  · exact ctP (by simp; omega) stop
end Go.AM.SP
set_option linter.all false
set_option autoImplicit false
namespace Go.AM.SP
open Go Go.AM
theorem wrap8 (n : Nat) : IntKind.u8.wrap (n : Int) = ((n % 256 : Nat) : Int) := by
  simp [IntKind.wrap, IntKind.bits, IntKind.signed]
theorem and127 (a : Nat) (h : a < 256) : andI .u8 (a : Int) 127 = ((a % 128 : Nat) : Int) := by
  unfold andI
  have e1 : (BitVec.ofInt IntKind.u8.bits (a : Int) &&& BitVec.ofInt IntKind.u8.bits 127).toNat = a % 128 := by
    rw [BitVec.toNat_and, BitVec.toNat_ofInt, BitVec.toNat_ofInt]
    have : a &&& 127 = a % 128 := Nat.and_two_pow_sub_one_eq_mod a 7
    show (((a : Int) % 256).toNat &&& 127) = _
    rw [show ((a : Int) % 256).toNat = a by omega, this]
  rw [e1, wrap8]; omega
theorem or_low {x y k : Nat} (hx : x < 2 ^ k) : x ||| y * 2 ^ k = x + y * 2 ^ k := by
  rw [Nat.or_comm, ← Nat.shiftLeft_eq, ← Nat.shiftLeft_add_eq_or_of_lt hx, Nat.add_comm]
theorem or128 (a : Nat) (h : a < 256) : orI .u8 (a : Int) 128 = ((a % 128 + 128 : Nat) : Int) := by
  unfold orI
  have e1 : (BitVec.ofInt IntKind.u8.bits (a : Int) ||| BitVec.ofInt IntKind.u8.bits 128).toNat = a % 128 + 128 := by
    rw [BitVec.toNat_or, BitVec.toNat_ofInt, BitVec.toNat_ofInt]
    show (((a : Int) % 256).toNat ||| 128) = _
    rw [show ((a : Int) % 256).toNat = a by omega]
    have h1 : a % 128 ||| 128 = a % 128 + 128 := by
      have := or_low (x := a % 128) (y := 1) (k := 7) (by omega)
      simpa using this
    by_cases h2 : a < 128
    · have h3 : a % 128 = a := by omega
      rw [h3] at h1 ⊢; exact h1
    · have h4 : a = (a % 128 ||| 128) := by rw [h1]; omega
      calc a ||| 128 = (a % 128 ||| 128) ||| 128 := congrArg (· ||| 128) h4
        _ = a % 128 + 128 := by rw [Nat.or_assoc, Nat.or_self, h1]
  rw [e1, wrap8]; omega
theorem or64 {x y : Nat} (hx : x < 2 ^ 63) (hy : y < 2 ^ 63) (hz : x ||| y < 2 ^ 63) : orI .i64 (x : Int) (y : Int) = ((x ||| y : Nat) : Int) := by
  unfold orI
  have e1 : (BitVec.ofInt IntKind.i64.bits (x : Int) ||| BitVec.ofInt IntKind.i64.bits (y : Int)).toNat = x ||| y := by
    rw [BitVec.toNat_or, BitVec.toNat_ofInt, BitVec.toNat_ofInt]
    show ((x : Int) % 18446744073709551616).toNat ||| ((y : Int) % 18446744073709551616).toNat = _
    rw [show ((x : Int) % 18446744073709551616).toNat = x by omega, show ((y : Int) % 18446744073709551616).toNat = y by omega]
  rw [e1, wrap_i64 (by omega) (by omega)]
theorem shl64 {y k : Nat} (hk : k ≤ 49) (hy : y < 128) : shlI .i64 (y : Int) k = ((y * 2 ^ k : Nat) : Int) := by
  unfold shlI
  have hk' : min k IntKind.i64.bits = k := by show min k 64 = k; omega
  have h3 : y * 2 ^ k ≤ 127 * 2 ^ 49 := Nat.mul_le_mul (by omega) (Nat.pow_le_pow_right (by omega) hk)
  rw [hk']
  rw [show (y : Int) * 2 ^ k = ((y * 2 ^ k : Nat) : Int) by push_cast; rfl]
  rw [wrap_i64 (by omega) (by omega)]
theorem shr64 (y k : Nat) (hk : k ≤ 64) : shrI .i64 (y : Int) k = ((y / 2 ^ k : Nat) : Int) := by
  unfold shrI
  have hk' : min k IntKind.i64.bits = k := by show min k 64 = k; omega
  rw [hk', show (2 : Int) ^ k = ((2 ^ k : Nat) : Int) by simp, Int.fdiv_eq_ediv_of_nonneg _ (Int.natCast_nonneg _)]
  omega
@[simp] theorem bs_size (l : List UInt8) : (bs l).size = l.length := by simp [bs, ByteArray.size]
theorem bs_app (a b : List UInt8) : bs a ++ bs b = bs (a ++ b) := by
  apply ByteArray.ext; simp [bs, ByteArray.data_append]
theorem bs_ext (l : List UInt8) (a b : Nat) : (bs l).extract a b = bs ((l.take b).drop a) := by
  apply ByteArray.ext
  rw [ByteArray.data_extract]
  apply Array.toList_inj.1
  simp [bs, Array.toList_extract, List.extract, List.drop_take]
theorem bs_at (l : List UInt8) (n : Nat) : byteAt (bs l) n = ((l.getD n 0).toNat : Int) := rfl
theorem ofBytes_of (l : List UInt8) : ofBytes (l.map fun b => D.int .u8 b.toNat) = bs l := by
  apply ByteArray.ext
  show (List.map _ (List.map _ l)).toArray = l.toArray
  rw [List.map_map]
  congr 1
  refine (List.map_congr_left (g := id) ?_).trans (List.map_id l)
  intro b _
  simp [D.i]
def numL (n : Nat) : List UInt8 := if n < 128 then [UInt8.ofNat n] else UInt8.ofNat (n % 128 + 128) :: numL (n / 128)
termination_by n
decreasing_by omega
theorem numL_lt {n : Nat} (h : n < 128) : numL n = [UInt8.ofNat n] := by rw [numL, if_pos h]
theorem numL_ge {n : Nat} (h : 128 ≤ n) : numL n = UInt8.ofNat (n % 128 + 128) :: numL (n / 128) := by rw [numL, if_neg (by omega)]
theorem numL_pos (n : Nat) : 1 ≤ (numL n).length := by
  by_cases h : n < 128
  · rw [numL_lt h]; simp
  · rw [numL_ge (by omega)]; simp
theorem numL_len : ∀ (k n : Nat), n < 128 ^ (k + 1) → (numL n).length ≤ k + 1
  | 0, n, h => by rw [numL_lt (by simpa using h)]; simp
  | k + 1, n, h => by
    by_cases h1 : n < 128
    · rw [numL_lt h1]; simp
    · rw [numL_ge (by omega), List.length_cons]
      have := numL_len k (n / 128) (by rw [Nat.div_lt_iff_lt_mul (by omega)]; rw [Nat.pow_succ] at h; exact h)
      omega
theorem u8_nat {n : Nat} (h : n < 256) : (UInt8.ofNat n).toNat = n := by
  rw [UInt8.toNat_ofNat']; omega
def big : Nat := 1125899906842624
theorem num_len {n : Nat} (h : n ≤ big) : (numL n).length ≤ 8 := numL_len 7 n (by unfold big at h; omega)
theorem num_ok (n : Nat) (hn : n ≤ big) : F44.s FUEL (n : Int) = some (dS (bs (numL n))) := by
  have hn' : n ≤ 1125899906842624 := hn
  unfold F44.s
  have h0 : mini (maxi (n : Int) 0) 1125899906842624 = (n : Int) := by
    unfold mini maxi; split <;> split <;> omega
  rw [h0]
  refine goS_rule (fun t : F44.S3 => ∃ (m : Nat) (acc : List UInt8) (b : Bool), t = ⟨(m : Int), 0, acc.length, b, acc.map fun b => D.int .u8 b.toNat⟩ ∧ acc ++ numL m = numL n ∧ m ≤ n) (fun t => 8 - t.n3) (fun R => R = some (dS (bs (numL n)))) ?_ _ _ ⟨n, [], false, rfl, rfl, by omega⟩ (by simp [FUEL])
  rintro _ rec ⟨m, acc, b, rfl, he, hm⟩ hrec
  have hlen := congrArg List.length he
  rw [List.length_append] at hlen
  have h8 := num_len hn
  have hp := numL_pos m
  have hcv : cv .u8 (m : Int) = ((m % 256 : Nat) : Int) := wrap8 m
  have htk : ((acc.map fun b => D.int .u8 (b.toNat : Int)).drop 0).take acc.length = acc.map fun b => D.int .u8 (b.toNat : Int) := by
    rw [List.drop_zero]; exact List.take_of_length_le (by simp)
  simp only [F44.st3]
  by_cases h1 : 128 ≤ m
  · refine ct (by simp; omega) (ct (by simp; omega) ?_)
    rw [hcv, or128 _ (by omega), htk, show (7 : Nat) = 7 from rfl, shr64 m 7 (by omega)]
    refine hrec _ ⟨m / 128, acc ++ [UInt8.ofNat (m % 128 + 128)], b || true, ?_, ?_, by omega⟩ (by simp; omega)
    · rw [List.map_append, List.length_append]
      simp only [ap, List.map_cons, List.map_nil, List.length_cons, List.length_nil]
      rw [u8_nat (by omega)]
      congr 6
      omega
    · rw [← he, numL_ge h1, List.append_assoc]; rfl
  · refine cf (by simp; omega) ?_
    refine ct (by simp; omega) ?_
    rw [hcv, htk]
    have : ap (acc.map fun b => D.int .u8 (b.toNat : Int)) [D.int .u8 ((m % 256 : Nat) : Int)] = (acc ++ numL m).map fun b => D.int .u8 (b.toNat : Int) := by
      rw [numL_lt (by omega), List.map_append]
      simp only [ap, List.map_cons, List.map_nil]
      rw [u8_nat (by omega), Nat.mod_eq_of_lt (by omega)]
    rw [this, he, List.drop_zero, List.take_of_length_le (by rw [List.length_map, ← he, List.length_append, numL_lt (by omega)]; simp), ofBytes_of]
theorem head_drop {l : List UInt8} {k : Nat} {b : UInt8} {t : List UInt8} (h : l.drop k = b :: t) : l.getD k 0 = b ∧ l.drop (k + 1) = t ∧ k < l.length := by
  have hk : k < l.length := by
    have := congrArg List.length h
    rw [List.length_drop, List.length_cons] at this; omega
  rw [List.drop_eq_getElem_cons hk] at h
  injection h with h1 h2
  exact ⟨by rw [List.getD_eq_getElem?_getD, List.getElem?_eq_getElem hk]; exact h1, h2, hk⟩
theorem pow7 (k : Nat) : 2 ^ (7 * k) = 128 ^ k := by rw [Nat.pow_mul]
theorem rnum_ok (n : Nat) (rest : List UInt8) (hn : n ≤ big) (hr : rest.length ≤ 1048576) : F86.s FUEL (bs (numL n ++ rest)) = some (da [di n, dS (bs rest), db true]) := by
  have hn' : n ≤ 1125899906842624 := hn
  unfold F86.s
  have hm : mini (nI (bs (numL n ++ rest)).size) 8 = ((min (bs (numL n ++ rest)).size 8 : Nat) : Int) := mini_nat _ 8
  rw [hm]
  generalize hm' : min (bs (numL n ++ rest)).size 8 = m
  have h2 : m ≤ 8 := by omega
  refine goS_rule (fun t : F86.S3 => ∃ (k x q : Nat), t = ⟨bs (numL n ++ rest), (x : Int), (m : Int), (k : Int), 0, bs [], false⟩ ∧ x < 128 ^ k ∧ n = x + q * 128 ^ k ∧ (numL n ++ rest).drop k = numL q ++ rest ∧ (0 < k → 1 ≤ q)) (fun t => m - t.i4.toNat) (fun R => R = some (da [di n, dS (bs rest), db true])) ?_ _ _ ⟨0, 0, n, rfl, by simp, by simp, rfl, by omega⟩ (by simp [FUEL]; omega)
  rintro _ rec ⟨k, x, q, rfl, hx, hnx, hd, hq⟩ hrec
  have hk : k ≤ 7 := by
    rcases Nat.lt_or_ge k 8 with h | h
    · omega
    · exfalso
      have h3 : 128 ^ 8 ≤ 128 ^ k := Nat.pow_le_pow_right (by omega) h
      have h4 : 1 * 128 ^ k ≤ q * 128 ^ k := Nat.mul_le_mul_right _ (hq (by omega))
      omega
  have hkl : k < (numL n ++ rest).length := by
    have := congrArg List.length hd
    have h9 := numL_pos q
    simp only [List.length_drop, List.length_append] at this ⊢; omega
  have hkm : k < m := by rw [← hm', bs_size]; omega
  have e3 : ml .i64 7 (k : Int) = ((7 * k : Nat) : Int) := by
    show IntKind.i64.wrap (7 * (k : Int)) = _
    rw [wrap_i64 (by omega) (by omega)]; omega
  have hadd : ad .i64 (k : Int) 1 = ((k + 1 : Nat) : Int) := by rw [ad64 (by omega) (by omega)]; rfl
  have hpow : 128 ^ k ≤ 128 ^ 7 := Nat.pow_le_pow_right (by omega) hk
  have qn : q * 128 ^ k ≤ n := by omega
  simp only [F86.st3]
  have hin : inb (k : Int) (bs (numL n ++ rest)).size = true := by rw [inb_t, bs_size]; exact ⟨by omega, by omega⟩
  refine ct (by simp; omega) (ct hin ?_)
  rw [e3, hadd]
  have low : ∀ c : Nat, c < 128 → c * 128 ^ k ≤ n → orI .i64 (x : Int) (shlI .i64 (cv .i64 (c : Int)) ((7 * k : Nat) : Int).toNat) = ((x + c * 128 ^ k : Nat) : Int) := by
    intro c hc hcn
    have hcv : cv .i64 (c : Int) = (c : Int) := wrap_i64 (by omega) (by omega)
    rw [hcv, Int.toNat_natCast, shl64 (by omega) hc, pow7]
    have hor : x ||| c * 128 ^ k = x + c * 128 ^ k := by
      have := or_low (x := x) (y := c) (k := 7 * k) (by rw [pow7]; exact hx)
      rw [pow7] at this; exact this
    rw [or64 (by omega) (by omega) (by rw [hor]; omega), hor]
  by_cases h1 : q < 128
  · rw [numL_lt (n := q) h1] at hd
    obtain ⟨g1, g2, g3⟩ := head_drop hd
    have hb : byteAt (bs (numL n ++ rest)) (k : Int).toNat = (q : Int) := by
      rw [bs_at, Int.toNat_natCast, g1, u8_nat (by omega)]
    have ha : andI .u8 (q : Int) 127 = (q : Int) := by rw [and127 q (by omega)]; omega
    rw [hb, ha]
    refine bdS (x := D.int .i64 (shlI .i64 (cv .i64 (q : Int)) ((7 * k : Nat) : Int).toNat)) (if_neg (by omega)) (ct hin (ct (by simp; omega) (ct ?_ ?_)))
    · rw [bs_size]; simp; simp at g3; omega
    · simp only [i_int]
      rw [low q h1 qn]
      have hrest : (bs (numL n ++ rest)).extract ((k + 1 : Nat) : Int).toNat (bs (numL n ++ rest)).size = bs rest := by
        rw [Int.toNat_natCast, bs_ext, bs_size, List.take_of_length_le (Nat.le_refl _), g2]; rfl
      rw [hrest, ← hnx]
      refine ct (by simp; omega) ?_
      by_cases hk0 : k = 0
      · subst hk0; exact ct rfl rfl
      · refine cf (by simp; omega) (ct hin ?_)
        have : gtI (q : Int) 0 = true := by simp; have := hq (by omega); omega
        rw [this]
  · rw [numL_ge (n := q) (by omega)] at hd
    obtain ⟨g1, g2, g3⟩ := head_drop hd
    have hb : byteAt (bs (numL n ++ rest)) (k : Int).toNat = ((q % 128 + 128 : Nat) : Int) := by
      rw [bs_at, Int.toNat_natCast, g1, u8_nat (by omega)]
    have ha : andI .u8 ((q % 128 + 128 : Nat) : Int) 127 = ((q % 128 : Nat) : Int) := by rw [and127 _ (by omega)]; omega
    rw [hb, ha]
    refine bdS (x := D.int .i64 (shlI .i64 (cv .i64 ((q % 128 : Nat) : Int)) ((7 * k : Nat) : Int).toNat)) (if_neg (by omega)) (ct hin (cf (by simp; omega) ?_))
    simp only [i_int]
    have hmul : q % 128 * 128 ^ k ≤ q * 128 ^ k := Nat.mul_le_mul_right _ (Nat.mod_le _ _)
    rw [low (q % 128) (by omega) (by omega)]
    have hsplit : q * 128 ^ k = q % 128 * 128 ^ k + q / 128 * 128 ^ (k + 1) := by
      have h5 : q = q % 128 + q / 128 * 128 := by omega
      calc q * 128 ^ k = (q % 128 + q / 128 * 128) * 128 ^ k := by rw [← h5]
        _ = _ := by rw [Nat.add_mul, Nat.pow_succ, Nat.mul_assoc, Nat.mul_comm 128]
    refine hrec _ ⟨k + 1, x + q % 128 * 128 ^ k, q / 128, rfl, ?_, ?_, g2, fun _ => by omega⟩ (by simp; omega)
    · have h6 : q % 128 * 128 ^ k ≤ 127 * 128 ^ k := Nat.mul_le_mul_right _ (by omega)
      rw [Nat.pow_succ]; omega
    · omega
theorem getnum_ok (n : Nat) (rest : List UInt8) (hn : n ≤ big) (hr : rest.length ≤ 1048576) : F79.s FUEL (bs (numL n ++ rest)) = some (D.tup [di n, dS (bs rest), db true]) := by
  unfold F79.s
  rw [rnum_ok n rest hn hr]
  rfl
def numsL (l : List Nat) : List UInt8 := l.flatMap numL
theorem nums_len {l : List Nat} (h : ∀ x ∈ l, x ≤ big) : (numsL l).length ≤ 8 * l.length := by
  induction l with
  | nil => simp [numsL]
  | cons a l ih =>
    have h1 := num_len (h a (by simp))
    have h2 := ih (fun x hx => h x (by simp [hx]))
    simp only [numsL, List.flatMap_cons, List.length_append, List.length_cons] at h2 ⊢
    omega
def dn (n : Nat) : D := di (n : Int)
theorem gnums_ok (l : List Nat) (rest : List UInt8) (hl : l.length ≤ 1000) (h : ∀ x ∈ l, x ≤ big) (hr : rest.length ≤ 1000000) : F78.s FUEL (bs (numsL l ++ rest)) (l.length : Int) = some (D.tup [dl (!l.isEmpty) (l.map dn), dS (bs rest), db true]) := by
  unfold F78.s
  refine goS_rule (fun t : F78.S3 => ∃ k : Nat, t = ⟨dS (bs (numsL (l.drop k) ++ rest)), 0, k, (l.length : Int), (k : Int), decide (0 < k), (l.take k).map dn⟩ ∧ k ≤ l.length) (fun t => l.length - t.i13.toNat) (fun R => R = some (D.tup [dl (!l.isEmpty) (l.map dn), dS (bs rest), db true])) ?_ _ _ ⟨0, rfl, by omega⟩ (by simp [FUEL]; omega)
  rintro _ rec ⟨k, rfl, hk⟩ hrec
  simp only [F78.st3]
  by_cases h1 : k < l.length
  · have e1 : ltI (k : Int) (l.length : Int) = true := by simp; omega
    have hadd : ad .i64 (k : Int) 1 = ((k + 1 : Nat) : Int) := by rw [ad64 (by omega) (by omega)]; rfl
    have hdr : l.drop k = l[k] :: l.drop (k + 1) := List.drop_eq_getElem_cons h1
    have hnl : numsL (l.drop k) ++ rest = numL l[k] ++ (numsL (l.drop (k + 1)) ++ rest) := by
      rw [hdr]; simp only [numsL, List.flatMap_cons, List.append_assoc]
    have hlen := nums_len (l := l.drop (k + 1)) (fun x hx => h x (List.mem_of_mem_drop hx))
    rw [List.length_drop] at hlen
    have hg := getnum_ok l[k] (numsL (l.drop (k + 1)) ++ rest) (h _ (List.getElem_mem _)) (by rw [List.length_append]; omega)
    refine ct e1 (bdS (x := D.tup [di l[k], dS (bs (numsL (l.drop (k + 1)) ++ rest)), db true]) ?_ (cf rfl (ct (by simp; omega) ?_)))
    · rw [s_str, hnl]; exact hg
    · rw [hadd]
      refine hrec _ ⟨k + 1, ?_, by omega⟩ (by simp; omega)
      rw [List.drop_zero, show ((l.take k).map dn).take k = (l.take k).map dn from List.take_of_length_le (by rw [List.length_map, List.length_take]; omega)]
      rw [List.take_succ_eq_append_getElem h1, List.map_append]
      simp [ap, dn]
  · have e1 : ltI (k : Int) (l.length : Int) = false := by simp; omega
    refine cf e1 ?_
    have hkl : k = l.length := by omega
    subst hkl
    rw [take_all, List.drop_of_length_le (Nat.le_refl _), List.drop_zero, List.take_of_length_le (by simp)]
    cases l <;> simp [numsL]
end Go.AM.SP
set_option linter.all false
set_option autoImplicit false
namespace Go.AM.SP
open Go Go.AM
theorem goS_now {S X : Type} {st : S → (S → Option D) → (X → Option D) → Option D} {K : X → Option D} {R : Option D} {s : S} (h : ∀ rec, st s rec K = R) : ∀ N, goS st N s K = R
  | 0 => by simp only [goS]; exact h _
  | N + 1 => by simp only [goS]; exact h _
def db8 (b : UInt8) : D := D.int .u8 b.toNat
theorem bytes_ok (mn gn : Bool) (g : List Nat) (hg : g.length ≤ 100) (h : ∀ x ∈ g, x ≤ big) : F42.s FUEL (da [dl mn [], dl gn (g.map dn)]) = some (dS (bs (numsL (0 :: g.length :: g)))) := by
  unfold F42.s
  refine goS_now (fun rec => ?_) _
  simp only [F42.st3]
  refine cf rfl ?_
  refine ct rfl (ct (by simp; omega) ?_)
  have hL : ∀ x ∈ (0 :: g.length :: g), x ≤ big := by
    intro x hx
    rcases List.mem_cons.1 hx with rfl | hx
    · simp [big]
    rcases List.mem_cons.1 hx with rfl | hx
    · simp only [big]; omega
    · exact h x hx
  have hrow : ap (((ap (([di (nI (([] : List D)).length)].drop 0).take 1) [di (nI (g.map dn).length)]).drop 0).take (1 + 1)) (g.map dn) = (0 :: g.length :: g).map dn := by
    simp [ap, dn]
  have hlen : (1 + 1) + (g.map dn).length = (0 :: g.length :: g).length := by simp; omega
  generalize hLd : 0 :: g.length :: g = L at *
  have hLl : L.length ≤ 102 := by rw [← hLd]; simp; omega
  have hL1 : 1 ≤ L.length := by rw [← hLd]; simp
  show goS (F42.st10 FUEL) FUEL (.s0 0 ((1 + 1) + (g.map dn).length) (nI ((1 + 1) + (g.map dn).length)) 0 (da [dl mn [], dl gn (g.map dn)]) true [di (nI (g.map dn).length)] _ (ap (((ap (([di (nI (([] : List D)).length)].drop 0).take 1) [di (nI (g.map dn).length)]).drop 0).take (1 + 1)) (g.map dn)) 0 0 false []) _ = _
  rw [hrow, hlen]
  generalize da [dl mn [], dl gn (g.map dn)] = p0
  generalize [di (nI (g.map dn).length)] = l29
  have hacc : ∀ k, (numsL (L.take k)).length ≤ 816 := by
    intro k
    have h1 := nums_len (l := L.take k) (fun x hx => hL x (List.mem_of_mem_take hx))
    rw [List.length_take] at h1
    omega
  refine goS_rule (fun t : F42.S10 => (∃ b30, t = .s0 0 L.length (L.length : Int) 0 p0 true l29 b30 (L.map dn) 0 0 false []) ∨ ∃ (k : Nat) (b30 b : Bool), t = .s1 0 L.length (L.length : Int) (k : Int) p0 true l29 b30 (L.map dn) 0 (numsL (L.take k)).length b ((numsL (L.take k)).map db8) ∧ 1 ≤ k ∧ k ≤ L.length)
    (fun t => match t with | .s0 .. => L.length + 1 | .s1 _ _ _ i39 .. => L.length - i39.toNat) (fun R => R = some (dS (bs (numsL L)))) ?_ _ _ (.inl ⟨_, rfl⟩) (by simp [FUEL]; omega)
  have key : ∀ k, (hk : k < L.length) → F44.s FUEL (ix (L.map dn) (0 + (k : Int).toNat)).i = some (dS (bs (numL L[k]))) := by
    intro k hk
    rw [Int.toNat_natCast, Nat.zero_add, ix_map hk]
    exact num_ok _ (hL _ (List.getElem_mem _))
  have hbl : ∀ n, bytesOf (bs (numL n)) = (numL n).map db8 := fun n => rfl
  have tk : ∀ k, (hk : k < L.length) → numsL (L.take (k + 1)) = numsL (L.take k) ++ numL L[k] := by
    intro k hk
    rw [List.take_succ_eq_append_getElem hk]; simp only [numsL, List.flatMap_append, List.flatMap_cons, List.flatMap_nil, List.append_nil]
  rintro _ rec (⟨b30, rfl⟩ | ⟨k, b30, b, rfl, hk1, hk⟩) hrec
  · simp only [F42.st10]
    have k0 := key 0 hL1
    have ha0 := hacc (0 + 1)
    rw [tk 0 hL1] at ha0
    refine ct (by simp; omega) (ct (by simp; omega) (bdS k0 ?_))
    rw [show bytesOf (dS (bs (numL L[0]))).s = (numL L[0]).map db8 from rfl]
    simp at ha0
    refine ct (by simp [numsL] at ha0; simp; omega) ?_
    have hadd0 : ad .i64 0 1 = ((1 : Nat) : Int) := by rw [ad64 (by omega) (by omega)]; rfl
    have hn1 : numsL (L.take 1) = numL L[0] := tk 0 hL1
    refine hrec _ (.inr ⟨1, b30, false || !(List.map db8 (numL L[0])).isEmpty, ?_, by omega, hL1⟩) (by rw [hadd0]; simp; omega)
    rw [hadd0, hn1, Nat.zero_add, List.length_map]
    rfl
  · simp only [F42.st10]
    by_cases h1 : k < L.length
    · have hadd : ad .i64 (k : Int) 1 = ((k + 1 : Nat) : Int) := by rw [ad64 (by omega) (by omega)]; rfl
      have ha0 := hacc (k + 1)
      rw [tk k h1, List.length_append] at ha0
      refine ct (by simp; omega) (ct (by simp; omega) (bdS (key k h1) ?_))
      rw [show bytesOf (dS (bs (numL L[k]))).s = (numL L[k]).map db8 from rfl]
      refine ct (by simp; omega) ?_
      rw [hadd]
      refine hrec _ (.inr ⟨k + 1, b30, b || !(List.map db8 (numL L[k])).isEmpty, ?_, by omega, by omega⟩) (by simp; omega)
      rw [tk k h1, List.drop_zero, show ((numsL (L.take k)).map db8).take (numsL (L.take k)).length = (numsL (L.take k)).map db8 from List.take_of_length_le (by simp)]
      simp only [ap, List.map_append, List.length_append, List.length_map]
    · refine cf (by simp; omega) ?_
      have hkl : k = L.length := by omega
      subst hkl
      rw [take_all]
      have hpos : 1 ≤ (numsL L).length := by
        rw [← hLd]
        have := numL_pos 0
        simp only [numsL, List.flatMap_cons, List.length_append]; omega
      have ha := hacc L.length
      rw [take_all] at ha
      refine ct ?_ ?_
      · cases b <;> simp <;> omega
      · rw [List.drop_zero, List.take_of_length_le (by simp)]
        show some (dS (ofBytes ((numsL L).map fun b => D.int .u8 b.toNat))) = _
        rw [ofBytes_of]
def manyC (len n : Nat) : Nat := (len + n - 1) / n
def chunk (n : Nat) (S : List UInt8) (i : Nat) : List UInt8 := (S.drop (i * n)).take n
def ptext (n : Nat) (S : List UInt8) (i : Nat) : List UInt8 := numL i ++ (numL (manyC S.length n) ++ chunk n S i)
theorem many_lt {len n : Nat} (hn : 0 < n) (k : Nat) : k < manyC len n ↔ k * n < len := by
  unfold manyC
  rw [← Nat.succ_le_iff, Nat.le_div_iff_mul_le hn, Nat.succ_mul]
  omega
theorem many_le {len n : Nat} (hn : 0 < n) : manyC len n ≤ len := by
  rcases Nat.lt_or_ge len (manyC len n) with h | h
  · have := (many_lt hn len).1 h
    have : len * 1 ≤ len * n := Nat.mul_le_mul_left _ hn
    omega
  · exact h
def ptexts (n : Nat) (S : List UInt8) : List (List UInt8) := (List.range (manyC S.length n)).map (ptext n S)
def rootL (g : List Nat) : List UInt8 := numsL (0 :: g.length :: g)
theorem put_none (r : Rt) (room : Int) (h : validB r.map r.gone = false ∨ room < 8 ∨ 224 < room) : F30.s FUEL r.enc room = some (.slice false []) := by
  unfold F30.s
  refine bdS (valid_ok r) ?_
  cases hv : validB r.map r.gone
  · exact ct rfl rfl
  refine cf rfl ?_
  rw [hv] at h
  by_cases h1 : room < 8
  · exact ct (by simp; omega) rfl
  refine cf (by simp; omega) (ct ?_ rfl)
  simp at h ⊢; omega
theorem put_loop (d5 : D) (n : Nat) (S : List UInt8) (hn : 0 < n) (hnb : n ≤ 1000) (hS : S.length ≤ 1000) (K : F30.X76_1 → Option D) :
    goS (F30.st76_1 FUEL) FUEL ⟨0, d5, dn (manyC S.length n), 0, 0, dS (bs S), (n : Int), false, []⟩ K = K (.e0 d5 (dn (manyC S.length n)) 0 (manyC S.length n) (dS (bs [])) (n : Int) (decide (0 < manyC S.length n)) ((ptexts n S).map fun t => dS (bs t))) := by
  have hml := many_le (len := S.length) hn
  generalize hm : manyC S.length n = m at *
  refine goS_rule (fun t : F30.S76_1 => ∃ k : Nat, t = ⟨(k : Int), d5, dn m, 0, k, dS (bs (S.drop (k * n))), (n : Int), decide (0 < k), (List.range k).map fun i => dS (bs (ptext n S i))⟩ ∧ k ≤ m) (fun t => m - t.n8)
    (fun R => R = K (.e0 d5 (dn m) 0 m (dS (bs [])) (n : Int) (decide (0 < m)) ((ptexts n S).map fun t => dS (bs t)))) ?_ _ _ ⟨0, by simp, by omega⟩ (by simp [FUEL]; omega)
  rintro _ rec ⟨k, rfl, hk⟩ hrec
  simp only [F30.st76_1]
  have hiff := many_lt (len := S.length) hn k
  rw [hm] at hiff
  by_cases h1 : k < m
  · have h2 := hiff.1 h1
    generalize hX : S.drop (k * n) = X
    have hXl : X.length = S.length - k * n := by rw [← hX, List.length_drop]
    have e1 : mini (n : Int) (nI (dS (bs X)).s.size) = ((min n X.length : Nat) : Int) := by
      simp only [s_str, bs_size, nI_eq]
      rw [show min n X.length = min X.length n from Nat.min_comm _ _]
      unfold mini; split <;> omega
    rw [e1]
    have e2 : (dS (bs X)).s.extract 0 ((min n X.length : Nat) : Int).toNat = bs (X.take n) := by
      rw [s_str, Int.toNat_natCast, bs_ext, List.drop_zero]
      congr 1
      rw [Nat.min_def]; split
      · rfl
      · rw [List.take_of_length_le (Nat.le_refl _), List.take_of_length_le (by omega)]
    rw [e2]
    have e3 : (dS (bs X)).s.extract (bs (X.take n)).size (dS (bs X)).s.size = bs (S.drop ((k + 1) * n)) := by
      rw [s_str, bs_size, bs_size, bs_ext, List.take_of_length_le (Nat.le_refl _), List.length_take]
      congr 1
      rw [Nat.succ_mul, ← List.drop_drop, hX, Nat.min_def]; split
      · rfl
      · rw [List.drop_of_length_le (Nat.le_refl _), List.drop_of_length_le (by omega)]
    rw [e3]
    have hadd : ad .i64 (k : Int) 1 = ((k + 1 : Nat) : Int) := by rw [ad64 (by omega) (by omega)]; rfl
    have l1 := num_len (n := k) (by simp only [big]; omega)
    have l2 := num_len (n := m) (by simp only [big]; omega)
    have l3 : (X.take n).length ≤ 1000 := by rw [List.length_take]; omega
    refine ct (by simp; omega) (ct (by simp; omega) (ct ?_ (bdS (num_ok k (by simp only [big]; omega)) (bdS (num_ok m (by simp only [big]; omega)) ?_))))
    · simp only [s_str, bs_size, nI_eq, List.length_take]; simp; omega
    refine bdS (x := dS (bs (numL k ++ numL m))) (by simp only [s_str]; rw [catS (by simp; omega), bs_app]) ?_
    refine bdS (x := dS (bs (ptext n S k))) (by
      simp only [s_str]; rw [catS (by simp; omega), bs_app]
      unfold ptext chunk
      rw [hX, hm, List.append_assoc]) (ct (by simp; omega) ?_)
    rw [hadd]
    refine hrec _ ⟨k + 1, ?_, by omega⟩ (by simp; omega)
    rw [List.drop_zero, show ((List.range k).map fun i => dS (bs (ptext n S i))).take k = (List.range k).map fun i => dS (bs (ptext n S i)) from List.take_of_length_le (by simp), List.range_succ, List.map_append]
    simp [ap]
  · have hkm : k = m := by omega
    subst hkm
    have h2 : S.drop (k * n) = [] := List.drop_of_length_le (by omega)
    rw [h2]
    refine cf (by simp) ?_
    unfold ptexts
    rw [List.map_map, hm]; rfl
theorem tdiv_nat (a b : Nat) : (a : Int).tdiv (b : Int) = ((a / b : Nat) : Int) := rfl
theorem put_ok (mn gn : Bool) (g : List Nat) (room : Nat) (h8 : 8 ≤ room) (h224 : room ≤ 224) (hg : g.length ≤ 100) (h : ∀ x ∈ g, x ≤ big) (hv : validB [] (g.map Int.ofNat) = true) (hS : (rootL g).length ≤ 1000) :
    F30.s FUEL (da [dl mn [], dl gn (g.map dn)]) (room : Int) = some (.slice (decide (0 < manyC (rootL g).length (room - 6))) ((ptexts (room - 6) (rootL g)).map fun t => dS (bs t))) := by
  unfold F30.s
  have hval : F41.s FUEL (da [dl mn [], dl gn (g.map dn)]) = some (db true) := by
    have := valid_ok ⟨mn, [], gn, g.map Int.ofNat⟩
    rw [hv] at this
    have e : Rt.enc ⟨mn, [], gn, g.map Int.ofNat⟩ = da [dl mn [], dl gn (g.map dn)] := by
      simp only [Rt.enc, List.map_nil, List.map_map]; rfl
    rw [e] at this; exact this
  refine bdS hval (cf rfl (cf (by simp; omega) (cf (by simp; omega) (bdS (bytes_ok mn gn g hg h) ?_))))
  have hsb : sb .i64 (room : Int) 6 = ((room - 6 : Nat) : Int) := by rw [sb64 (by omega) (by omega)]; omega
  rw [hsb]
  show bd (if ((room - 6 : Nat) : Int) = 0 then none else some (D.int .i64 (quoI .i64 (sb .i64 (ad .i64 (nI (bs (rootL g)).size) ((room - 6 : Nat) : Int)) 1) ((room - 6 : Nat) : Int)))) _ = _
  have hq : quoI .i64 (sb .i64 (ad .i64 (nI (bs (rootL g)).size) ((room - 6 : Nat) : Int)) 1) ((room - 6 : Nat) : Int) = (manyC (rootL g).length (room - 6) : Nat) := by
    rw [bs_size, nI_eq, ad64 (by omega) (by omega), sb64 (by omega) (by omega)]
    unfold quoI
    rw [show ((rootL g).length : Int) + ((room - 6 : Nat) : Int) - 1 = (((rootL g).length + (room - 6) - 1 : Nat) : Int) by omega, tdiv_nat]
    have hle := many_le (len := (rootL g).length) (n := room - 6) (by omega)
    show IntKind.i64.wrap ((manyC (rootL g).length (room - 6) : Nat) : Int) = _
    exact wrap_i64 (by omega) (by omega)
  rw [hq]
  refine bdS (if_neg (by omega)) ?_
  refine (put_loop _ (room - 6) (rootL g) (by omega) (by omega) hS _).trans ?_
  refine ct ?_ rfl
  simp [ptexts]
end Go.AM.SP
set_option linter.all false
set_option autoImplicit false
namespace Go.AM.SP
open Go Go.AM
def isPart (s n : Int) (p : Sp) : Bool := p.kind == 1 && p.seq == s && p.owner == 0 && p.logic == n
def first (l : List Sp) (s n : Int) : Option Sp := l.find? (isPart s n)
structure IsParts (l : List Sp) (s : Int) (P : List Sp) : Prop where
  each : ∀ (j : Nat) (h : j < P.length), first l s (j : Int) = some P[j]
  last : first l s (P.length : Int) = none
theorem parts_uniq {l l' : List Sp} {s : Int} {P P' : List Sp} (h : IsParts l s P) (h' : IsParts l' s P') (hf : ∀ n, first l s n = first l' s n) : P = P' := by
  have hlen : P.length = P'.length := by
    rcases Nat.lt_trichotomy P.length P'.length with g | g | g
    · have h1 := h.last
      rw [hf, h'.each _ g] at h1; simp at h1
    · exact g
    · have h1 := h'.last
      rw [← hf, h.each _ g] at h1; simp at h1
  refine List.ext_getElem hlen ?_
  intro j h1 h2
  have e1 := h.each j h1
  rw [hf, h'.each j h2] at e1
  simpa using e1.symm
theorem first_mem {l : List Sp} {s n : Int} {p : Sp} (h : first l s n = some p) : p ∈ l ∧ p.kind = 1 ∧ p.seq = s ∧ p.owner = 0 ∧ p.logic = n := by
  have h1 := List.find?_some h
  simp [isPart] at h1
  exact ⟨List.mem_of_find?_eq_some h, h1.1.1.1, h1.1.1.2, h1.1.2, h1.2⟩
def above (l : List Sp) (n : Nat) : Nat := l.countP fun p => decide ((n : Int) ≤ p.logic)
theorem above_le (n : Nat) : ∀ l : List Sp, above l (n + 1) ≤ above l n
  | [] => by simp [above]
  | p :: l => by
    have ih := above_le n l
    simp only [above, List.countP_cons] at ih ⊢
    by_cases h1 : ((n + 1 : Nat) : Int) ≤ p.logic
    · have h2 : (n : Int) ≤ p.logic := by omega
      simp only [h1, h2, decide_true, if_true]; omega
    · simp only [h1, decide_false]
      simp only [Bool.false_eq_true, if_false]; split <;> omega
theorem above_lt {n : Nat} : ∀ {l : List Sp} {p : Sp}, p ∈ l → p.logic = (n : Int) → above l (n + 1) + 1 ≤ above l n
  | [], _, h, _ => by simp at h
  | q :: l, p, h, hp => by
    have ih := above_le n l
    rcases List.mem_cons.1 h with rfl | h'
    · simp only [above, List.countP_cons] at ih ⊢
      have h1 : ¬ ((n + 1 : Nat) : Int) ≤ p.logic := by omega
      have h2 : (n : Int) ≤ p.logic := by omega
      simp only [h1, h2, decide_true, decide_false, if_true]
      simp only [Bool.false_eq_true, if_false]; omega
    · have ih2 := above_lt h' hp
      simp only [above, List.countP_cons] at ih2 ⊢
      by_cases h1 : ((n + 1 : Nat) : Int) ≤ q.logic
      · have h2 : (n : Int) ≤ q.logic := by omega
        simp only [h1, h2, decide_true, if_true]; omega
      · simp only [h1, decide_false]
        simp only [Bool.false_eq_true, if_false]; split <;> omega
theorem eqv_di (a b : Int) : D.eqv ty eqDepth (di a) (di b) (.int .i64) = some (decide (a = b)) := eqv_int 15 a b
theorem F22_first (nn : Bool) (l : List Sp) (s : Int) (hl : l.length ≤ 1000) (b5 b7 : Bool) (l6 l8 : List D) (K : F22.X3 → Option D) :
    ∃ m : List (Int × Sp), (∀ n, mget n m = first l s n) ∧ goS (F22.st3 FUEL) FUEL ⟨s, dl nn (l.map Sp.enc), (nI (dl nn (l.map Sp.enc)).elems.length), 0, b5, l6, b7, l8, []⟩ K = K (.e0 b5 l6 b7 l8 (encM di Sp.enc m)) := by
  refine goS_rule (fun t : F22.S3 => ∃ (k : Nat) (m : List (Int × Sp)), t = ⟨s, dl nn (l.map Sp.enc), (l.length : Int), (k : Int), b5, l6, b7, l8, encM di Sp.enc m⟩ ∧ k ≤ l.length ∧ ∀ n, mget n m = first (l.take k) s n) (fun t => l.length - t.i4.toNat) (fun R => ∃ m : List (Int × Sp), (∀ n, mget n m = first l s n) ∧ R = K (.e0 b5 l6 b7 l8 (encM di Sp.enc m))) ?_ _ _ ⟨0, [], by simp [encM], by omega, by simp [mget, first]⟩ (by simp [FUEL]; omega)
  rintro _ rec ⟨k, m, rfl, hk, hm⟩ hrec
  simp only [F22.st3]
  by_cases h1 : k < l.length
  · have hx : ix (dl nn (l.map Sp.enc)).elems (k : Int).toNat = l[k].enc := ix_map h1
    have e1 : ltI (k : Int) (l.length : Int) = true := by simp; omega
    have e2 : inb (k : Int) (dl nn (l.map Sp.enc)).elems.length = true := by simp; omega
    have hadd : ad .i64 (k : Int) 1 = ((k + 1 : Nat) : Int) := by rw [ad64 (by omega) (by omega)]; rfl
    have a0 : ((l[k].enc.at 2).at 0).i = l[k].kind := rfl
    have a1 : ((l[k].enc.at 2).at 1).i = l[k].seq := rfl
    have a2 : ((l[k].enc.at 2).at 2).i = l[k].owner := rfl
    have a3 : ((l[k].enc.at 2).at 3) = di l[k].logic := rfl
    rw [e1, e2, hx, hadd, a0, a1, a2, a3]
    simp only [cond_true]
    have step : ∀ n, first (l.take (k + 1)) s n = (first (l.take k) s n).or (if isPart s n l[k] then some l[k] else none) := by
      intro n
      unfold first
      rw [List.take_succ_eq_append_getElem h1, List.find?_append]
      congr 1
      simp only [List.find?_cons, List.find?_nil]
      cases isPart s n l[k] <;> rfl
    have skip : (∀ n, isPart s n l[k] = false) → ∃ m' : List (Int × Sp), (∀ n, mget n m' = first l s n) ∧ rec ⟨s, dl nn (l.map Sp.enc), (l.length : Int), ((k + 1 : Nat) : Int), b5, l6, b7, l8, encM di Sp.enc m⟩ = K (.e0 b5 l6 b7 l8 (encM di Sp.enc m')) := by
      intro hn
      exact hrec _ ⟨k + 1, m, rfl, by omega, fun n => by rw [step, hn, hm]; simp⟩ (by simp; omega)
    by_cases g1 : l[k].kind = 1
    · rw [show neI l[k].kind 1 = false by simp [g1]]
      simp only [cond_false]
      by_cases g2 : l[k].seq = s
      · rw [show neI l[k].seq s = false by simp [g2]]
        simp only [cond_false]
        by_cases g3 : l[k].owner = 0
        · rw [show neI l[k].owner 0 = false by simp [g3]]
          simp only [cond_false]
          obtain ⟨q, hq, hA⟩ := assoc_enc0 (g := Sp.enc) eqv_di l[k].logic m
          rw [hq]
          simp only [bdq]
          have his := hA.is
          rw [hm] at his
          have hpart : ∀ n, isPart s n l[k] = decide (l[k].logic = n) := by
            intro n; simp only [isPart, g1, g2, g3]; simp; rfl
          cases hqs : q.isSome
          · simp only [Bool.not_false, cond_true]
            rw [hA.put]
            refine hrec _ ⟨k + 1, _, rfl, by omega, ?_⟩ (by simp; omega)
            intro n
            rw [mget_mput, step, hpart, hm]
            by_cases g4 : l[k].logic = n
            · subst g4
              have hnone : first (l.take k) s l[k].logic = none := by
                rw [hqs] at his
                cases hf : first (l.take k) s l[k].logic
                · rfl
                · rw [hf] at his; simp at his
              rw [hnone]; simp
            · simp [g4]
          · simp only [Bool.not_true, cond_false]
            refine hrec _ ⟨k + 1, m, rfl, by omega, ?_⟩ (by simp; omega)
            intro n
            rw [hm, step, hpart]
            by_cases g4 : l[k].logic = n
            · subst g4
              rw [hqs] at his
              cases hf : first (l.take k) s l[k].logic
              · rw [hf] at his; simp at his
              · simp
            · simp [g4]
        · rw [show neI l[k].owner 0 = true by simp [g3]]
          exact skip (fun n => by simp [isPart, g3])
      · rw [show neI l[k].seq s = true by simp [g2]]
        exact skip (fun n => by simp [isPart, g2])
    · rw [show neI l[k].kind 1 = true by simp [g1]]
      exact skip (fun n => by simp [isPart, g1])
  · have e1 : ltI (k : Int) (l.length : Int) = false := by simp; omega
    rw [e1]
    have hkl : k = l.length := by omega
    subst hkl
    rw [take_all] at hm
    exact ⟨m, hm, rfl⟩
theorem F22_parts (l : List Sp) (s : Int) (hl : l.length ≤ 1000) (m : List (Int × Sp)) (hm : ∀ n, mget n m = first l s n) (b5 b7 : Bool) (l6 l8 : List D) (K : F22.X14 → Option D) :
    ∃ (P : List Sp) (q : Option Nat), IsParts l s P ∧ P.length ≤ l.length ∧ goS (F22.st14 FUEL) FUEL ⟨0, 0, 0, 0, 0, b5, l6, b7, l8, encM di Sp.enc m, false, [], false, []⟩ K = K (.e0 0 P.length 0 P.length b5 l6 b7 l8 (encM di Sp.enc m) (!P.isEmpty) (P.map Sp.enc) (!P.isEmpty) (P.map fun p => dS p.text) q) := by
  refine goS_rule (fun t : F22.S14 => ∃ (P : List Sp), t = ⟨0, P.length, 0, P.length, (P.length : Int), b5, l6, b7, l8, encM di Sp.enc m, !P.isEmpty, P.map Sp.enc, !P.isEmpty, P.map fun p => dS p.text⟩ ∧ (∀ (j : Nat) (h : j < P.length), first l s (j : Int) = some P[j]) ∧ P.length + above l P.length ≤ l.length) (fun t => 1000 - t.i16.toNat)
    (fun R => ∃ (P : List Sp) (q : Option Nat), IsParts l s P ∧ P.length ≤ l.length ∧ R = K (.e0 0 P.length 0 P.length b5 l6 b7 l8 (encM di Sp.enc m) (!P.isEmpty) (P.map Sp.enc) (!P.isEmpty) (P.map fun p => dS p.text) q)) ?_ _ _ ⟨[], rfl, by simp, by have := List.countP_le_length (p := fun p : Sp => decide (((0 : Nat) : Int) ≤ p.logic)) (l := l); simp only [List.length_nil, above]; omega⟩ (by simp [FUEL])
  rintro _ rec ⟨P, rfl, hP, hab⟩ hrec
  simp only [F22.st14]
  obtain ⟨q, hq, hA⟩ := assoc_enc0 (g := Sp.enc) eqv_di (P.length : Int) m
  rw [hq]
  simp only [bdq]
  have his := hA.is
  rw [hm] at his
  cases hqs : q.isSome
  · rw [hqs] at his
    have hnone : first l s (P.length : Int) = none := by
      cases hf : first l s (P.length : Int)
      · rfl
      · rw [hf] at his; simp at his
    exact ⟨P, q, ⟨hP, hnone⟩, by omega, rfl⟩
  · rw [hqs] at his
    obtain ⟨p, hp⟩ : ∃ p, first l s (P.length : Int) = some p := by
      cases hf : first l s (P.length : Int)
      · rw [hf] at his; simp at his
      · exact ⟨_, rfl⟩
    have hmem := first_mem hp
    have hlt := above_lt hmem.1 hmem.2.2.2.2
    have hmx : mx (P.length + 1) = true := by simp; omega
    have hadd : ad .i64 (P.length : Int) 1 = ((P.length + 1 : Nat) : Int) := by rw [ad64 (by omega) (by omega)]; rfl
    have hv : entryVal (encM di Sp.enc m) (da [(di 0), (di 0), (da [(di 0), (di 0), (di 0), (di 0), (dS (bs []))])]) q = p.enc := by
      rw [hA.val, hm, hp]
    simp only [Bool.not_true, cond_false, hmx, cond_true, hadd, hv]
    refine hrec _ ⟨P ++ [p], ?_, ?_, ?_⟩ (by simp; omega)
    · rw [List.drop_zero, List.drop_zero, show (P.map Sp.enc).take P.length = P.map Sp.enc from List.take_of_length_le (by simp), show (P.map fun p => dS p.text).take P.length = P.map fun p => dS p.text from List.take_of_length_le (by simp)]
      have hne : (P ++ [p]).isEmpty = false := by cases P <;> rfl
      rw [hne]
      simp [ap, Sp.enc]
    · intro j hj
      by_cases hjl : j < P.length
      · rw [List.getElem_append_left hjl]; exact hP j hjl
      · have : j = P.length := by simp at hj; omega
        subst this
        rw [hp]; simp
    · simp only [List.length_append, List.length_singleton]
      omega
def wholeR (P : List Sp) (r : Rt) (ok : Bool) : D := bif ok then .tup [r.enc, dl (!P.isEmpty) (P.map Sp.enc), db true] else .tup [noRt.enc, dl false [], db false]
theorem whole_ok (nn : Bool) (l : List Sp) (s : Int) (hl : l.length ≤ 1000) (ht : ∀ x ∈ l, x.text.size ≤ 230) :
    ∃ (P : List Sp) (r : Rt) (ok : Bool), IsParts l s P ∧ P.length ≤ l.length ∧ F35.s FUEL (dl (!P.isEmpty) (P.map fun p => dS p.text)) = some (D.tup [r.enc, db ok]) ∧ r.map.length ≤ 400 ∧ r.gone.length ≤ 100 ∧
      F22.s FUEL (dl nn (l.map Sp.enc)) s = some (wholeR P r ok) := by
  unfold F22.s
  obtain ⟨m, hm, e⟩ := F22_first nn l s (by omega) false false [] [] _
  obtain ⟨P, q, hP, hPl, e'⟩ := F22_parts l s (by omega) m hm false false [] [] _
  have hmem : ∀ p ∈ P, p ∈ l := by
    intro p hp
    obtain ⟨j, hj, rfl⟩ := List.getElem_of_mem hp
    exact (first_mem (hP.each j hj)).1
  obtain ⟨r, ok, e3, h1, h2, h3⟩ := get_total (!P.isEmpty) (P.map Sp.text) (by simp; omega) (by
    intro x hx
    obtain ⟨p, hp, rfl⟩ := List.mem_map.1 hx
    have := ht p (hmem p hp); omega)
  rw [List.map_map] at e3
  have e4 : F35.s FUEL (dl (!P.isEmpty) (P.map fun p => dS p.text)) = some (D.tup [r.enc, db ok]) := e3
  refine ⟨P, r, ok, hP, hPl, e4, h1, h2, ?_⟩
  refine e.trans (e'.trans ?_)
  simp only [List.drop_zero]
  rw [show (P.map Sp.enc).take P.length = P.map Sp.enc from List.take_of_length_le (by simp), show (P.map fun p => dS p.text).take P.length = P.map fun p => dS p.text from List.take_of_length_le (by simp), e4]
  cases ok <;> rfl
end Go.AM.SP
