/- Part 11 of the proof: the abstract machine, what the functions compute, and plain laws over that. -/
import Derived.Test.YtonknblidjpfeaaSh10
set_option linter.all false
set_option linter.unusedSimpArgs false
set_option linter.unusedVariables false
set_option linter.unusedSectionVars false
namespace Go.AM
open Go
theorem ct {c : Bool} {a b R : Option D} (h : c = true) (k : a = R) : cond c a b = R := by subst h; exact k
theorem cf {c : Bool} {a b R : Option D} (h : c = false) (k : b = R) : cond c a b = R := by subst h; exact k
theorem bdS {o : Option D} {x : D} {f : D → Option D} {R : Option D} (h : o = some x) (k : f x = R) : bd o f = R := by subst h; exact k
theorem goS_rule {S X : Type} {st : S → (S → Option D) → (X → Option D) → Option D} {K : X → Option D} (Inv : S → Prop) (μ : S → Nat) (Post : Option D → Prop)
    (h : ∀ s rec, Inv s → (∀ s', Inv s' → μ s' < μ s → Post (rec s')) → Post (st s rec K)) : ∀ N s, Inv s → μ s ≤ N → Post (goS st N s K)
  | 0, s, hi, hm => by
    simp only [goS]
    exact h s _ hi (fun s' _ h' => by omega)
  | N + 1, s, hi, hm => by
    simp only [goS]
    exact h s _ hi (fun s' hi' h' => goS_rule Inv μ Post h N s' hi' (by omega))
theorem ad64 {a b : Int} (h1 : -9223372036854775808 ≤ a + b) (h2 : a + b ≤ 9223372036854775807) : ad .i64 a b = a + b := by
  have h : ∀ n : Int, -9223372036854775808 ≤ n → n ≤ 9223372036854775807 → IntKind.i64.wrap n = n := by
    intro n h1 h2
    simp [IntKind.wrap, IntKind.signed, IntKind.bits]
    omega
  exact h _ h1 h2
theorem sb64 {a b : Int} (h1 : -9223372036854775808 ≤ a - b) (h2 : a - b ≤ 9223372036854775807) : sb .i64 a b = a - b := by
  have := ad64 (a := a) (b := -b) (by omega) (by omega)
  simp only [ad, sb] at this ⊢
  rw [show a - b = a + -b by omega]; exact this
@[simp] theorem ltI_t {a b : Int} : (ltI a b = true) = (a < b) := by simp [ltI]
@[simp] theorem ltI_f {a b : Int} : (ltI a b = false) = (b ≤ a) := by simp [ltI]
@[simp] theorem leI_t {a b : Int} : (leI a b = true) = (a ≤ b) := by simp [leI]
@[simp] theorem leI_f {a b : Int} : (leI a b = false) = (b < a) := by simp [leI]
@[simp] theorem gtI_t {a b : Int} : (gtI a b = true) = (b < a) := by simp [gtI]
@[simp] theorem gtI_f {a b : Int} : (gtI a b = false) = (a ≤ b) := by simp [gtI]
@[simp] theorem geI_t {a b : Int} : (geI a b = true) = (b ≤ a) := by simp [geI]
@[simp] theorem geI_f {a b : Int} : (geI a b = false) = (a < b) := by simp [geI]
@[simp] theorem eqI_t {a b : Int} : (eqI a b = true) = (a = b) := by simp [eqI]
@[simp] theorem eqI_f {a b : Int} : (eqI a b = false) = (a ≠ b) := by simp [eqI]
@[simp] theorem neI_t {a b : Int} : (neI a b = true) = (a ≠ b) := by simp [neI]
@[simp] theorem neI_f {a b : Int} : (neI a b = false) = (a = b) := by simp [neI]
@[simp] theorem inb_t {a : Int} {n : Nat} : (inb a n = true) = (0 ≤ a ∧ a < (n : Int)) := by simp [inb]
@[simp] theorem leN_t {a b : Nat} : (leN a b = true) = (a ≤ b) := by simp [leN]
@[simp] theorem eqN_t {a b : Nat} : (eqN a b = true) = (a = b) := by simp [eqN]
@[simp] theorem mx_t {a : Nat} : (mx a = true) = (a ≤ 1073741824) := by simp only [mx, maxLen]; exact propext decide_eq_true_iff
@[simp] theorem nI_eq {n : Nat} : nI n = (n : Int) := rfl
theorem ix_eq {l : List D} {n : Nat} (h : n < l.length) : ix l n = l[n] := by simp [ix, List.getD_eq_getElem?_getD, h]
theorem ix_map {α : Type} {l : List α} {f : α → D} {n : Nat} (h : n < l.length) : ix (l.map f) n = f l[n] := by rw [ix_eq (by simpa using h)]; simp
@[simp] theorem eqS_t {a b : ByteArray} : (eqS a b = true) = (a = b) := by
  simp only [eqS, beq_iff_eq, eq_iff_iff]
  constructor
  · intro h
    have h1 : ∀ x : ByteArray, x.toList = x.data.toList := fun x => by
      rw [ByteArray.toList]
      have key : ∀ (n i : Nat) (r : List UInt8), x.size - i = n → i ≤ x.size → ByteArray.toList.loop x i r = r.reverse ++ x.data.toList.drop i := by
        intro n
        induction n with
        | zero =>
          intro i r hn hi
          have : i = x.size := by omega
          unfold ByteArray.toList.loop
          rw [if_neg (by omega), List.drop_of_length_le (by simp; omega)]
          simp
        | succ n ih =>
          intro i r hn hi
          unfold ByteArray.toList.loop
          have hlt : i < x.size := by omega
          rw [if_pos hlt, ih (i + 1) _ (by omega) (by omega)]
          have hd : x.data.toList.drop i = x.get! i :: x.data.toList.drop (i + 1) := by
            rw [List.drop_eq_getElem_cons (by simpa using hlt)]
            congr 1
            cases x; rename_i a
            simp only [ByteArray.get!]
            rw [Array.getElem!_eq_getD, Array.getD_eq_getD_getElem?]
            have : i < a.size := hlt
            simp [this]
          rw [hd]; simp
      have := key x.size 0 [] (by omega) (by omega)
      simpa using this
    rw [h1, h1] at h
    cases a; cases b
    simp only [ByteArray.mk.injEq]
    exact Array.toList_inj.1 h
  · rintro rfl; rfl
@[simp] theorem eqS_f {a b : ByteArray} : (eqS a b = false) = (a ≠ b) := by
  rw [← Bool.not_eq_true, eqS_t]
@[simp] theorem eqS_self {a : ByteArray} : eqS a a = true := by rw [eqS_t]
@[simp] theorem at_agg (l : List D) (i : Nat) : (D.agg l).at i = l.getD i .nilFunc := rfl
@[simp] theorem at_tup (l : List D) (i : Nat) : (D.tup l).at i = l.getD i .nilFunc := rfl
@[simp] theorem i_int (k : IntKind) (n : Int) : (D.int k n).i = n := rfl
@[simp] theorem s_str (s : ByteArray) : (D.str s).s = s := rfl
@[simp] theorem b_bool (b : Bool) : (D.bool b).b = b := rfl
@[simp] theorem elems_slice (b : Bool) (l : List D) : (D.slice b l).elems = l := rfl
@[simp] theorem nn_slice (b : Bool) (l : List D) : (D.slice b l).nn = b := rfl
@[simp] theorem parts_agg (l : List D) : (D.agg l).parts = l := rfl
structure Ev where
  kind : Int
  id : Int
  name : ByteArray
  time : Int
  len : Int
  sum : List Int
def sumD (l : List Int) : D := .agg (l.map (D.int .u8))
def Ev.enc (e : Ev) : D := da [di e.kind, di e.id, dS e.name, di e.time, di e.len, sumD e.sum]
structure Fl where
  id : Int
  name : ByteArray
  data : ByteArray
  sealed : Bool
  until_ : Int
  nn : Bool
  holds : List ByteArray
def Fl.enc (f : Fl) : D := da [di f.id, dS f.name, dS f.data, db f.sealed, di f.until_, dl f.nn (f.holds.map dS)]
structure En where
  file : Fl
  len : Int
  sum : List Int
def En.enc (x : En) : D := da [x.file.enc, di x.len, sumD x.sum]
structure Bk where
  nn : Bool
  es : List En
  last : Int
  floor : Int
def Bk.enc (b : Bk) : D := da [dl b.nn (b.es.map En.enc), di b.last, di b.floor]
def i64ok (n : Int) : Prop := -9223372036854775808 ≤ n ∧ n ≤ 9223372036854775807
structure Ev.ok (e : Ev) : Prop where
  kind : i64ok e.kind
  id : i64ok e.id
  time : i64ok e.time
  len : i64ok e.len
  sum : e.sum.length = 32
section
variable {ty : Nat → K}
theorem hass_struct {d : D} {fs : List Nat} (h : D.has ty d (.struct fs)) : ∃ ds, d = .agg ds ∧ D.hass ty ds (fs.map ty) := by
  cases d with
  | agg ds => simp only [D.has] at h; exact ⟨ds, rfl, h.2⟩
  | slice nn ds => simp only [D.has] at h; obtain ⟨e, h, _⟩ := h; simp at h
  | iface t x => simp only [D.has] at h; obtain ⟨⟨m, h⟩, _⟩ := h; simp at h
  | bool b => simp [D.has] at h
  | int k n => simp [D.has] at h
  | str s => simp [D.has] at h
  | tup l => simp [D.has] at h
  | nilIface => simp [D.has] at h
  | fn f => simp [D.has] at h
  | nilFunc => simp [D.has] at h
  | nilPtr => simp [D.has] at h
  | nilMap => simp [D.has] at h
theorem hass_slice {d : D} {e : Nat} (h : D.has ty d (.slice e)) : ∃ nn ds, d = .slice nn ds ∧ D.hass ty ds (List.replicate ds.length (ty e)) ∧ (nn = false → ds = []) := by
  cases d with
  | slice nn ds => simp only [D.has] at h; obtain ⟨e', h1, h2, h3⟩ := h; simp at h1; subst h1; exact ⟨nn, ds, rfl, h2, h3⟩
  | agg ds => simp [D.has, K.isAgg] at h
  | iface t x => simp only [D.has] at h; obtain ⟨⟨m, h⟩, _⟩ := h; simp at h
  | bool b => simp [D.has] at h
  | int k n => simp [D.has] at h
  | str s => simp [D.has] at h
  | tup l => simp [D.has] at h
  | nilIface => simp [D.has] at h
  | fn f => simp [D.has] at h
  | nilFunc => simp [D.has] at h
  | nilPtr => simp [D.has] at h
  | nilMap => simp [D.has] at h
theorem wf_i64 {n : Int} (h : D.wf (.int .i64 n)) : i64ok n := by
  simp only [D.wf, IntKind.min, IntKind.max, IntKind.signed, IntKind.bits] at h
  unfold i64ok
  simp at h
  omega
theorem hass1 {d : D} {ds : List D} {κ : K} {κs : List K} (h : D.hass ty (d :: ds) (κ :: κs)) : D.has ty d κ ∧ D.hass ty ds κs := by
  simp only [D.hass] at h
  obtain ⟨_, _, h1, h2, h3⟩ := h
  simp only [List.cons.injEq] at h1
  obtain ⟨rfl, rfl⟩ := h1
  exact ⟨h2, h3⟩
theorem hass0 {ds : List D} (h : D.hass ty ds []) : ds = [] := by
  cases ds with
  | nil => rfl
  | cons d ds => simp [D.hass] at h
theorem hassC {ds : List D} {κ : K} {κs : List K} (h : D.hass ty ds (κ :: κs)) : ∃ d ds', ds = d :: ds' ∧ D.has ty d κ ∧ D.hass ty ds' κs := by
  cases ds with
  | nil => simp [D.hass] at h
  | cons d ds => exact ⟨d, ds, rfl, hass1 h⟩
theorem hass_rep {α : Type} {f : α → D} {κ : K} {Q : α → Prop} (one : ∀ d, D.has ty d κ → D.wf d → ∃ x, d = f x ∧ Q x) : ∀ {ds : List D} {n : Nat}, D.hass ty ds (List.replicate n κ) → D.wfs ds → ∃ l : List α, ds = l.map f ∧ l.length = n ∧ ∀ x ∈ l, Q x
  | [], n, h, _ => by
    cases n with
    | zero => exact ⟨[], rfl, rfl, by simp⟩
    | succ n => simp [List.replicate_succ, D.hass] at h
  | d :: ds, n, h, hw => by
    cases n with
    | zero => simp [D.hass] at h
    | succ n =>
      rw [List.replicate_succ] at h
      obtain ⟨h1, h2⟩ := hass1 h
      simp only [D.wfs] at hw
      obtain ⟨x, rfl, hx⟩ := one d h1 hw.1
      obtain ⟨l, rfl, rfl, hl⟩ := hass_rep one h2 hw.2
      exact ⟨x :: l, rfl, rfl, by simpa using ⟨hx, hl⟩⟩
end
end Go.AM
set_option linter.all false
set_option autoImplicit false
namespace Go.AM.SP
open Go Go.AM
def insI (x : Int) : List Int → List Int
  | [] => [x]
  | y :: l => cond (decide (x ≤ y)) (x :: y :: l) (y :: insI x l)
def isort : List Int → List Int
  | [] => []
  | x :: l => insI x (isort l)
theorem insI_perm (x : Int) : ∀ l : List Int, (insI x l).Perm (x :: l)
  | [] => .refl _
  | y :: l => by
    unfold insI
    cases h : decide (x ≤ y)
    · exact (List.Perm.cons y (insI_perm x l)).trans (List.Perm.swap x y l)
    · exact .refl _
theorem isort_perm : ∀ l : List Int, (isort l).Perm l
  | [] => .refl _
  | x :: l => (insI_perm x _).trans (List.Perm.cons x (isort_perm l))
theorem insI_sorted (x : Int) : ∀ l : List Int, l.Pairwise (· ≤ ·) → (insI x l).Pairwise (· ≤ ·)
  | [], _ => by simp [insI]
  | y :: l, h => by
    unfold insI
    cases hd : decide (x ≤ y)
    · have hxy : y ≤ x := by have := of_decide_eq_false hd; omega
      rw [List.pairwise_cons] at h
      refine List.pairwise_cons.2 ⟨?_, insI_sorted x l h.2⟩
      intro z hz
      have := (insI_perm x l).mem_iff.1 hz
      rcases List.mem_cons.1 this with rfl | h9
      · exact hxy
      · exact h.1 z h9
    · have hxy : x ≤ y := of_decide_eq_true hd
      refine List.pairwise_cons.2 ⟨?_, h⟩
      intro z hz
      rcases List.mem_cons.1 hz with rfl | h9
      · exact hxy
      · have := (List.pairwise_cons.1 h).1 z h9; omega
theorem isort_sorted : ∀ l : List Int, (isort l).Pairwise (· ≤ ·)
  | [] => .nil
  | x :: l => insI_sorted x _ (isort_sorted l)
theorem merge_sorted (l : List Int) : (l.mergeSort fun x y => decide (x ≤ y)).Pairwise (· ≤ ·) := by
  have h := List.pairwise_mergeSort (le := fun (x y : Int) => decide (x ≤ y)) (by intro a b c h1 h2; simp at *; omega) (by intro a b; simp; omega) l
  exact h.imp (by intro a b h; simpa using h)
theorem merge_isort (l : List Int) : (l.mergeSort fun x y => decide (x ≤ y)) = isort l := by
  refine List.Perm.eq_of_pairwise (le := (· ≤ ·)) ?_ (merge_sorted l) (isort_sorted l) ((List.mergeSort_perm _ _).trans (isort_perm l).symm)
  intro a b _ _ h1 h2; omega
def isortD (ds : List D) : List D := (isort (ds.map D.i)).map (D.int .i64)
theorem sortD_eq : sortD = isortD := by
  funext ds; unfold sortD isortD; rw [merge_isort]
theorem works_eq : F8.s FUEL = some (db true) := by
  unfold F8.s F17.s F15.s F18.s
  rw [sortD_eq]
  kernel_rfl
end Go.AM.SP
set_option linter.all false
set_option autoImplicit false
namespace Go.AM.SP
open Go Go.AM
structure Sp where
  (block at_ kind seq owner logic : Int) (text : ByteArray)
def Sp.enc (s : Sp) : D := da [di s.block, di s.at_, da [di s.kind, di s.seq, di s.owner, di s.logic, dS s.text]]
structure Ey where
  (logic owner block at_ : Int)
def Ey.enc (e : Ey) : D := da [di e.logic, di e.owner, di e.block, di e.at_]
structure Rt where
  (mn : Bool) (map : List Ey) (gn : Bool) (gone : List Int)
def Rt.enc (r : Rt) : D := da [dl r.mn (r.map.map Ey.enc), dl r.gn (r.gone.map (D.int .i64))]
def Sp.ok (s : Sp) : Prop := i64ok s.block ∧ i64ok s.at_ ∧ i64ok s.kind ∧ i64ok s.seq ∧ i64ok s.owner ∧ i64ok s.logic
def Ey.ok (e : Ey) : Prop := i64ok e.logic ∧ i64ok e.owner ∧ i64ok e.block ∧ i64ok e.at_
section
variable {α β : Type} [DecidableEq α]
def mget (a : α) : List (α × β) → Option β
  | [] => none
  | e :: m => if e.1 = a then some e.2 else mget a m
def mput (a : α) (v : β) : List (α × β) → List (α × β)
  | [] => [(a, v)]
  | e :: m => if e.1 = a then (a, v) :: m else e :: mput a v m
theorem mget_mput (a b : α) (v : β) : ∀ m : List (α × β), mget b (mput a v m) = if a = b then some v else mget b m
  | [] => by simp [mget, mput]
  | e :: m => by
    by_cases h : e.1 = a
    · simp only [mput, h, if_true, mget]
      by_cases h2 : a = b
      · simp [h2]
      · simp [h2]
    · simp only [mput, h, if_false, mget, mget_mput a b v m]
      by_cases h2 : a = b
      · subst h2; simp [h]
      · simp [h2]
def encM (f : α → D) (g : β → D) (m : List (α × β)) : List (D × D) := m.map fun e => (f e.1, g e.2)
structure At (f : α → D) (g : β → D) (m : List (α × β)) (a : α) (q : Option Nat) : Prop where
  val : ∀ z, entryVal (encM f g m) z q = match mget a m with | some v => g v | none => z
  put : ∀ v, entrySet (encM f g m) (f a) (g v) q = encM f g (mput a v m)
  set : ∀ v v', setVal (entrySet (encM f g m) (f a) v q) (entryAt (encM f g m) q) (g v') = encM f g (mput a v' m)
  at_ : ∀ v, entryAt (encM f g m) q < (entrySet (encM f g m) (f a) v q).length
  is : q.isSome = (mget a m).isSome
theorem assoc_enc {κ : K} {f : α → D} {g : β → D} (hf : ∀ a b, D.eqv ty eqDepth (f a) (f b) κ = some (decide (a = b))) (a : α) :
    ∀ (m : List (α × β)) (i : Nat), ∃ q : Option Nat, assoc ty κ (f a) (encM f g m) i = some (q.map (· + i)) ∧ At f g m a q
  | [], i => ⟨none, rfl, ⟨fun _ => rfl, fun _ => rfl, fun _ _ => rfl, fun v => by simp [entryAt, entrySet, encM], rfl⟩⟩
  | e :: m, i => by
    by_cases h : e.1 = a
    · refine ⟨some 0, ?_, ?_⟩
      · show assoc ty κ (f a) ((f e.1, g e.2) :: encM f g m) i = _
        simp only [assoc, hf, h, decide_true, Option.map_some, Nat.zero_add]
      · constructor
        · intro z; simp [entryVal, encM, mget, h]
        · intro v; simp [entrySet, encM, mput, h]
        · intro v v'; simp [entrySet, setVal, entryAt, encM, mput, h]
        · intro v; simp [entrySet, entryAt, encM]
        · simp [mget, h]
    · obtain ⟨q, h1, h2⟩ := assoc_enc hf a m (i + 1)
      refine ⟨q.map (· + 1), ?_, ?_⟩
      · show assoc ty κ (f a) ((f e.1, g e.2) :: encM f g m) i = _
        have h' : ¬ a = e.1 := fun x => h x.symm
        simp only [assoc, hf, h', decide_false]
        rw [h1]
        cases q <;> simp; omega
      · have c : encM f g (e :: m) = (f e.1, g e.2) :: encM f g m := rfl
        have cp : ∀ v, encM f g (mput a v (e :: m)) = (f e.1, g e.2) :: encM f g (mput a v m) := fun v => by simp [mput, h, encM]
        constructor
        · intro z
          have := h2.val z
          rw [c]
          cases q <;> simpa [entryVal, mget, h] using this
        · intro v
          have := h2.put v
          rw [c, cp, ← this]
          cases q <;> simp [entrySet]
        · intro v v'
          have := h2.set v v'
          rw [c, cp, ← this]
          cases q <;> simp [entrySet, setVal, entryAt]
        · intro v
          have := h2.at_ v
          rw [c]
          cases q <;> simp [entrySet, entryAt] at this ⊢ <;> omega
        · have := h2.is
          simp only [mget, h, if_false]
          rw [← this]; cases q <;> rfl
theorem assoc_enc0 {κ : K} {f : α → D} {g : β → D} (hf : ∀ a b, D.eqv ty eqDepth (f a) (f b) κ = some (decide (a = b))) (a : α) (m : List (α × β)) :
    ∃ q : Option Nat, assoc ty κ (f a) (encM f g m) 0 = some q ∧ At f g m a q := by
  obtain ⟨q, h1, h2⟩ := assoc_enc (f := f) (g := g) hf a m 0
  refine ⟨q, ?_, h2⟩
  rw [h1]; cases q <;> rfl
theorem bdqS {o : Option (Option Nat)} {q : Option Nat} {f : Option Nat → Option D} {R : Option D} (h : o = some q) (k : f q = R) : bdq o f = R := by subst h; exact k
end
theorem ap_take {α : Type} (f : α → D) (l : List α) {k : Nat} (h : k < l.length) : ap ((((l.take k).map f).drop 0).take k) [f l[k]] = (l.take (k + 1)).map f := by
  rw [List.drop_zero, List.take_of_length_le (by rw [List.length_map, List.length_take]; omega), List.take_succ_eq_append_getElem h, List.map_append]
  rfl
theorem take_all {α : Type} {l : List α} : l.take l.length = l := List.take_of_length_le (Nat.le_refl _)
theorem few_ok (nn : Bool) (l : List Sp) : ∃ b : Bool, F9.s FUEL (dl nn (l.map Sp.enc)) = some (db b) ∧ (b = true → l.length ≤ 60 ∧ ∀ x ∈ l, x.text.size ≤ 230) := by
  unfold F9.s
  refine goS_rule (fun t : F9.S2 => ∃ k : Nat, t = ⟨dl nn (l.map Sp.enc), (k : Int)⟩ ∧ k ≤ l.length ∧ k ≤ 61 ∧ ∀ x ∈ l.take k, x.text.size ≤ 230) (fun t => 61 - t.i2.toNat) (fun o => ∃ b : Bool, o = some (db b) ∧ (b = true → l.length ≤ 60 ∧ ∀ x ∈ l, x.text.size ≤ 230)) ?_ _ _ ⟨0, rfl, by omega, by omega, by simp⟩ (by simp [FUEL])
  rintro _ rec ⟨k, rfl, hk, hk61, ht⟩ hrec
  simp only [F9.st2]
  by_cases h1 : k < l.length
  · by_cases h2 : k ≤ 60
    · have hx : ix (l.map Sp.enc) k = l[k].enc := ix_map h1
      have e1 : ltI (k : Int) (nI (dl nn (l.map Sp.enc)).elems.length) = true := by simp; omega
      have e2 : leI (k : Int) 60 = true := by simp; omega
      have e3 : inb (k : Int) (dl nn (l.map Sp.enc)).elems.length = true := by simp; omega
      rw [e1, e2, e3]
      have e4 : gtI (nI (((ix (dl nn (l.map Sp.enc)).elems (k : Int).toNat).at 2).at 4).s.size) 230 = decide (230 < l[k].text.size) := by
        show gtI (nI (((ix (l.map Sp.enc) k).at 2).at 4).s.size) 230 = _
        rw [hx]
        show gtI ((l[k].text.size : Nat) : Int) 230 = _
        simp [gtI]
        omega
      rw [e4]
      by_cases h3 : 230 < l[k].text.size
      · simp only [h3, decide_true, cond_true]
        exact ⟨false, rfl, by simp⟩
      · simp only [h3, decide_false, cond_true, cond_false]
        have hadd : ad .i64 (k : Int) 1 = ((k + 1 : Nat) : Int) := by rw [ad64 (by omega) (by omega)]; rfl
        rw [hadd]
        refine hrec _ ⟨k + 1, rfl, by omega, by omega, ?_⟩ (by simp; omega)
        intro x hx
        rw [List.take_succ_eq_append_getElem h1] at hx
        rcases List.mem_append.1 hx with h | h
        · exact ht x h
        · simp at h; subst h; omega
    · have e1 : ltI (k : Int) (nI (dl nn (l.map Sp.enc)).elems.length) = true := by simp; omega
      have e2 : leI (k : Int) 60 = false := by simp; omega
      rw [e1, e2]
      refine ⟨_, rfl, ?_⟩
      intro h; simp at h; omega
  · have e1 : ltI (k : Int) (nI (dl nn (l.map Sp.enc)).elems.length) = false := by simp; omega
    rw [e1]
    refine ⟨_, rfl, ?_⟩
    intro h
    simp at h
    refine ⟨by omega, ?_⟩
    rw [List.take_of_length_le (by omega)] at ht
    exact ht
theorem of_spots (nn : Bool) (l : List Sp) (hl : l.length ≤ 1048576) : ∃ b, F11.s FUEL (dl nn (l.map Sp.enc)) = some (dl b (l.map Sp.enc)) := by
  unfold F11.s
  refine goS_rule (fun t : F11.S3 => ∃ (k : Nat) (b : Bool), t = ⟨dl nn (l.map Sp.enc), 0, k, (k : Int), b, (l.take k).map Sp.enc⟩ ∧ k ≤ l.length) (fun t => l.length - t.i4.toNat) (fun o => ∃ b, o = some (dl b (l.map Sp.enc))) ?_ _ _ ⟨0, false, rfl, by omega⟩ (by simp [FUEL]; omega)
  rintro _ rec ⟨k, b, rfl, hk⟩ hrec
  simp only [F11.st3]
  by_cases h1 : k < l.length
  · have hx : ix (dl nn (l.map Sp.enc)).elems (k : Int).toNat = l[k].enc := ix_map h1
    have e1 : ltI (k : Int) (nI (dl nn (l.map Sp.enc)).elems.length) = true := by simp; omega
    have e3 : inb (k : Int) (dl nn (l.map Sp.enc)).elems.length = true := by simp; omega
    have e4 : mx (k + 1) = true := by simp; omega
    have hadd : ad .i64 (k : Int) 1 = ((k + 1 : Nat) : Int) := by rw [ad64 (by omega) (by omega)]; rfl
    rw [e1, e3, e4, hx, hadd]
    simp only [cond_true]
    have e5 : ap ((((l.take k).map Sp.enc).drop 0).take k) [l[k].enc] = (l.take (k + 1)).map Sp.enc := by
      exact ap_take Sp.enc l h1
    have := hrec ⟨dl nn (l.map Sp.enc), 0, k + 1, ((k + 1 : Nat) : Int), (b || true), (l.take (k + 1)).map Sp.enc⟩ ⟨k + 1, _, rfl, by omega⟩ (by simp; omega)
    rw [← e5] at this
    exact this
  · have e1 : ltI (k : Int) (nI (dl nn (l.map Sp.enc)).elems.length) = false := by simp; omega
    rw [e1]
    have hkl : k = l.length := by omega
    subst hkl
    refine ⟨b, ?_⟩
    rw [take_all]
    simp
theorem of_root (r : Rt) (hl : r.map.length ≤ 1048576) : ∃ b, F12.s FUEL r.enc = some (Rt.enc ⟨b, r.map, r.gn, r.gone⟩) := by
  unfold F12.s
  refine goS_rule (fun t : F12.S3 => ∃ (k : Nat) (b : Bool), t = ⟨(k : Int), r.enc, false, [], false, [], 0, k, r.enc.at 1, b, (r.map.take k).map Ey.enc⟩ ∧ k ≤ r.map.length) (fun t => r.map.length - t.i1.toNat) (fun o => ∃ b, o = some (Rt.enc ⟨b, r.map, r.gn, r.gone⟩)) ?_ _ _ ⟨0, false, rfl, by omega⟩ (by simp [FUEL]; omega)
  rintro _ rec ⟨k, b, rfl, hk⟩ hrec
  have h0 : (r.enc.at 0).elems = r.map.map Ey.enc := rfl
  simp only [F12.st3, h0]
  by_cases h1 : k < r.map.length
  · have hx : ix (r.map.map Ey.enc) (k : Int).toNat = r.map[k].enc := ix_map h1
    have e1 : ltI (k : Int) (nI (r.map.map Ey.enc).length) = true := by simp; omega
    have e3 : inb (k : Int) (r.map.map Ey.enc).length = true := by simp; omega
    have e4 : mx (k + 1) = true := by simp; omega
    have hadd : ad .i64 (k : Int) 1 = ((k + 1 : Nat) : Int) := by rw [ad64 (by omega) (by omega)]; rfl
    rw [e1, e3, e4, hx, hadd]
    simp only [cond_true]
    have e5 : ap ((((r.map.take k).map Ey.enc).drop 0).take k) [r.map[k].enc] = (r.map.take (k + 1)).map Ey.enc := by
      exact ap_take Ey.enc r.map h1
    have := hrec ⟨((k + 1 : Nat) : Int), r.enc, false, [], false, [], 0, k + 1, r.enc.at 1, (b || true), (r.map.take (k + 1)).map Ey.enc⟩ ⟨k + 1, _, rfl, by omega⟩ (by simp; omega)
    rw [← e5] at this
    exact this
  · have e1 : ltI (k : Int) (nI (r.map.map Ey.enc).length) = false := by simp; omega
    rw [e1]
    have hkl : k = r.map.length := by omega
    subst hkl
    refine ⟨b, ?_⟩
    rw [take_all]
    simp only [List.drop_zero]
    rw [List.take_of_length_le (by rw [List.length_map]; omega)]
    rfl
end Go.AM.SP
set_option linter.all false
set_option autoImplicit false
namespace Go.AM.SP
open Go Go.AM
def isB (e : Ey) (s : Sp) : Bool := s.block == e.block && s.at_ == e.at_ && s.kind == 0 && s.owner == e.owner && s.logic == e.logic
def holdsB (l : List Sp) (m : List Ey) : Bool := m.all fun e => l.any (isB e)
abbrev Key := Int × Int × Int × Int
def keyD (k : Key) : D := da [da [di k.1, di k.2.1], da [di k.2.2.1, di k.2.2.2]]
def Sp.key (s : Sp) : Key := (s.block, s.at_, s.owner, s.logic)
def Ey.key (e : Ey) : Key := (e.block, e.at_, e.owner, e.logic)
theorem eqv_int (n : Nat) (a b : Int) : D.eqv ty (n + 1) (di a) (di b) (.int .i64) = some (decide (a = b)) := by
  simp [D.eqv]
  by_cases h : a = b <;> simp [h]
theorem eqv_key (a b : Key) : D.eqv ty eqDepth (keyD a) (keyD b) (.struct [67, 67]) = some (decide (a = b)) := by
  obtain ⟨a1, a2, a3, a4⟩ := a
  obtain ⟨b1, b2, b3, b4⟩ := b
  have t67 : ty 67 = .array 2 3 := rfl
  have t3 : ty 3 = .int .i64 := rfl
  have h2 : ∀ x1 x2 y1 y2 : Int, D.eqv ty 15 (da [di x1, di x2]) (da [di y1, di y2]) (.array 2 3) = some (decide (x1 = y1 ∧ x2 = y2)) := by
    intro x1 x2 y1 y2
    show eqvs (D.eqv ty 14) [di x1, di x2] [di y1, di y2] [ty 3, ty 3] = _
    rw [t3]
    simp only [eqvs]
    rw [eqv_int 13, eqv_int 13]
    by_cases h1 : x1 = y1 <;> by_cases h2 : x2 = y2 <;> simp [h1, h2]
  show eqvs (D.eqv ty 15) [da [di a1, di a2], da [di a3, di a4]] [da [di b1, di b2], da [di b3, di b4]] [ty 67, ty 67] = _
  rw [t67]
  simp only [eqvs]
  rw [h2, h2]
  by_cases h1 : a1 = b1 ∧ a2 = b2 <;> by_cases h2 : a3 = b3 ∧ a4 = b4 <;> simp [h1, h2] <;> grind
def cnt (k : Key) (l : List Sp) : Nat := l.countP fun s => s.kind == 0 && s.key == k
theorem cnt_any (e : Ey) : ∀ l : List Sp, (decide (cnt e.key l = 0)) = !(l.any (isB e))
  | [] => rfl
  | s :: l => by
    have ih := cnt_any e l
    have : (s.kind == 0 && s.key == e.key) = isB e s := by
      simp only [isB, Sp.key, Ey.key]
      rw [Bool.eq_iff_iff]; simp; grind
    simp only [cnt, List.countP_cons, this, List.any_cons] at ih ⊢
    cases h : isB e s
    · simpa [h] using ih
    · simp [h]
theorem scan_holds (nn : Bool) (l : List Sp) (r : Rt) (hl : l.length ≤ 1048576) (hr : r.map.length ≤ 1048576) : F13.s FUEL (dl nn (l.map Sp.enc)) r.enc = some (db (holdsB l r.map)) := by
  unfold F13.s
  refine goS_rule (fun t : F13.S3 => ∃ (k : Nat) (m : List (Key × Int)), t = ⟨dl nn (l.map Sp.enc), (l.length : Int), (k : Int), r.enc, encM keyD di m⟩ ∧ k ≤ l.length ∧ ∀ y, (mget y m).getD 0 = (cnt y (l.take k) : Int)) (fun t => l.length - t.i3.toNat) (fun o => o = some (db (holdsB l r.map))) ?_ _ _ ⟨0, [], by simp [encM], by omega, by simp [mget, cnt]⟩ (by simp [FUEL]; omega)
  rintro _ rec ⟨k, m, rfl, hk, hm⟩ hrec
  simp only [F13.st3]
  by_cases h1 : k < l.length
  · have hx : ix (dl nn (l.map Sp.enc)).elems (k : Int).toNat = l[k].enc := ix_map h1
    have e1 : ltI (k : Int) (l.length : Int) = true := by simp; omega
    have e3 : inb (k : Int) (dl nn (l.map Sp.enc)).elems.length = true := by simp; omega
    have hadd : ad .i64 (k : Int) 1 = ((k + 1 : Nat) : Int) := by rw [ad64 (by omega) (by omega)]; rfl
    rw [e1, e3, hx, hadd]
    simp only [cond_true]
    have a0 : ((l[k].enc.at 2).at 0).i = l[k].kind := rfl
    have ak : da [da [l[k].enc.at 0, l[k].enc.at 1], da [(l[k].enc.at 2).at 2, (l[k].enc.at 2).at 3]] = keyD l[k].key := rfl
    rw [a0, ak]
    have step : ∀ y, cnt y (l.take (k + 1)) = cnt y (l.take k) + if l[k].kind = 0 ∧ l[k].key = y then 1 else 0 := by
      intro y
      rw [List.take_succ_eq_append_getElem h1, cnt, List.countP_append]
      simp [cnt, List.countP_cons]
    by_cases h2 : l[k].kind = 0
    · refine ct (by simp [h2]) ?_
      obtain ⟨q, hq, hA⟩ := assoc_enc0 (g := di) eqv_key l[k].key m
      refine bdqS hq (ct (by rw [eqv_key]; simp [eqT]) (bdqS hq (ct ?_ ?_)))
      · have := hA.at_ (entryVal (encM keyD di m) (di 0) q)
        simp; omega
      · have e9 : (entryVal (encM keyD di m) (di 0) q).i = (cnt l[k].key (l.take k) : Int) := by
          rw [hA.val, ← hm]
          cases mget l[k].key m <;> rfl
        rw [e9]
        have hc : (cnt l[k].key (l.take k) : Int) ≤ l.length := by
          have := List.countP_le_length (p := fun s : Sp => s.kind == 0 && s.key == l[k].key) (l := l.take k)
          rw [List.length_take] at this
          simp only [cnt]; omega
        rw [ad64 (by omega) (by omega), hA.set]
        refine hrec _ ⟨k + 1, _, rfl, by omega, ?_⟩ (by simp; omega)
        intro y
        rw [mget_mput, step]
        by_cases h3 : l[k].key = y
        · simp [h2, h3]
        · simp [h2, h3, hm]
    · refine cf (by simp [h2]) ?_
      refine hrec _ ⟨k + 1, m, rfl, by omega, ?_⟩ (by simp; omega)
      intro y
      rw [step, hm]; simp [h2]
  · have e1 : ltI (k : Int) (l.length : Int) = false := by simp; omega
    rw [e1]
    have hkl : k = l.length := by omega
    subst hkl
    rw [take_all] at hm
    simp only [cond_false]
    have h0 : (r.enc.at 0) = dl r.mn (r.map.map Ey.enc) := rfl
    rw [h0]
    refine goS_rule (fun t : F13.S36_2 => ∃ (j : Nat), t = ⟨dl r.mn (r.map.map Ey.enc), (r.map.length : Int), (j : Int), r.enc, encM keyD di m⟩ ∧ j ≤ r.map.length ∧ (r.map.take j).all (fun e => l.any (isB e)) = true) (fun t => r.map.length - t.i10.toNat) (fun o => o = some (db (holdsB l r.map))) ?_ _ _ ⟨0, by simp, by omega, by simp⟩ (by simp [FUEL]; omega)
    rintro _ rec2 ⟨j, rfl, hj, ha⟩ hrec2
    simp only [F13.st36_2]
    by_cases h4 : j < r.map.length
    · have hx : ix (dl r.mn (r.map.map Ey.enc)).elems (j : Int).toNat = r.map[j].enc := ix_map h4
      have f1 : ltI (j : Int) (r.map.length : Int) = true := by simp; omega
      have f3 : inb (j : Int) (dl r.mn (r.map.map Ey.enc)).elems.length = true := by simp; omega
      have hadd : ad .i64 (j : Int) 1 = ((j + 1 : Nat) : Int) := by rw [ad64 (by omega) (by omega)]; rfl
      rw [f1, f3, hx, hadd]
      simp only [cond_true]
      have ak : da [da [r.map[j].enc.at 2, r.map[j].enc.at 3], da [r.map[j].enc.at 1, r.map[j].enc.at 0]] = keyD r.map[j].key := rfl
      rw [ak]
      obtain ⟨q, hq, hA⟩ := assoc_enc0 (g := di) eqv_key r.map[j].key m
      refine bdqS hq ?_
      have e9 : (entryVal (encM keyD di m) (di 0) q).i = (cnt r.map[j].key l : Int) := by
        rw [hA.val, ← hm]
        cases mget r.map[j].key m <;> rfl
      have hany := cnt_any r.map[j] l
      rw [e9]
      cases hb : l.any (isB r.map[j])
      · rw [hb] at hany
        have hz : cnt r.map[j].key l = 0 := by simpa using hany
        refine ct (by simp [hz]) ?_
        have hf : holdsB l r.map = false := by
          rw [holdsB, List.all_eq_false]
          exact ⟨r.map[j], List.getElem_mem _, by simp [hb]⟩
        rw [hf]
        have : geI (j : Int) 0 = true := by simp
        rw [this]; rfl
      · rw [hb] at hany
        have hz : cnt r.map[j].key l ≠ 0 := by simpa using hany
        refine cf (by simp; omega) ?_
        refine hrec2 _ ⟨j + 1, rfl, by omega, ?_⟩ (by simp; omega)
        rw [List.take_succ_eq_append_getElem h4, List.all_append, ha]
        simp [hb]
    · refine cf (by simp; omega) ?_
      have hjl : j = r.map.length := by omega
      subst hjl
      rw [take_all] at ha
      rw [holdsB, ha]
theorem ref_holds (nn : Bool) (l : List Sp) (r : Rt) (hl : l.length ≤ 1048576) (hr : r.map.length ≤ 1048576) : F10.s FUEL (dl nn (l.map Sp.enc)) r.enc = some (db (holdsB l r.map)) := by
  unfold F10.s
  refine goS_rule (fun t : F10.S2 => ∃ (j : Nat), t = ⟨dl nn (l.map Sp.enc), (j : Int), r.enc⟩ ∧ j ≤ r.map.length ∧ (r.map.take j).all (fun e => l.any (isB e)) = true) (fun t => r.map.length - t.i2.toNat) (fun o => o = some (db (holdsB l r.map))) ?_ _ _ ⟨0, rfl, by omega, by simp⟩ (by simp [FUEL]; omega)
  rintro _ rec2 ⟨j, rfl, hj, ha⟩ hrec2
  have h0 : (r.enc.at 0).elems = r.map.map Ey.enc := rfl
  simp only [F10.st2, h0]
  by_cases h4 : j < r.map.length
  · have hx : ix (r.map.map Ey.enc) (j : Int).toNat = r.map[j].enc := ix_map h4
    have f1 : ltI (j : Int) (nI (r.map.map Ey.enc).length) = true := by simp; omega
    have f3 : inb (j : Int) (r.map.map Ey.enc).length = true := by simp; omega
    rw [f1, f3, hx]
    simp only [cond_true]
    refine goS_rule (fun t : F10.S7 => ∃ (k : Nat), t = ⟨dl nn (l.map Sp.enc), (j : Int), (l.take k).any (isB r.map[j]), (k : Int), r.enc, r.map[j].enc⟩ ∧ k ≤ l.length) (fun t => l.length - t.i7.toNat) (fun o => o = some (db (holdsB l r.map))) ?_ _ _ ⟨0, rfl, by omega⟩ (by simp [FUEL]; omega)
    rintro _ rec ⟨k, rfl, hk⟩ hrec
    simp only [F10.st7]
    by_cases h1 : k < l.length
    · have hx2 : ix (dl nn (l.map Sp.enc)).elems (k : Int).toNat = l[k].enc := ix_map h1
      have e1 : ltI (k : Int) (nI (dl nn (l.map Sp.enc)).elems.length) = true := by simp; omega
      have e3 : inb (k : Int) (dl nn (l.map Sp.enc)).elems.length = true := by simp; omega
      have hadd : ad .i64 (k : Int) 1 = ((k + 1 : Nat) : Int) := by rw [ad64 (by omega) (by omega)]; rfl
      rw [e1, e3, hx2, hadd]
      simp only [cond_true]
      have hs : ∀ b, (l.take (k + 1)).any (isB r.map[j]) = b → rec ⟨dl nn (l.map Sp.enc), (j : Int), b, ((k + 1 : Nat) : Int), r.enc, r.map[j].enc⟩ = some (db (holdsB l r.map)) := by
        rintro _ rfl
        exact hrec _ ⟨k + 1, rfl, by omega⟩ (by simp; omega)
      have hstep : (l.take (k + 1)).any (isB r.map[j]) = ((l.take k).any (isB r.map[j]) || isB r.map[j] l[k]) := by
        rw [List.take_succ_eq_append_getElem h1, List.any_append]; simp
      rw [hstep] at hs
      have b0 : (l[k].enc.at 0).i = l[k].block := rfl
      have b1 : (l[k].enc.at 1).i = l[k].at_ := rfl
      have b2 : ((l[k].enc.at 2).at 0).i = l[k].kind := rfl
      have b3 : ((l[k].enc.at 2).at 2).i = l[k].owner := rfl
      have b4 : ((l[k].enc.at 2).at 3).i = l[k].logic := rfl
      have c0 : (r.map[j].enc.at 2).i = r.map[j].block := rfl
      have c1 : (r.map[j].enc.at 3).i = r.map[j].at_ := rfl
      have c2 : (r.map[j].enc.at 1).i = r.map[j].owner := rfl
      have c3 : (r.map[j].enc.at 0).i = r.map[j].logic := rfl
      rw [b0, b1, b2, b3, b4, c0, c1, c2, c3]
      cases ha' : (l.take k).any (isB r.map[j])
      · rw [ha'] at hs
        simp only [cond_false, Bool.false_or] at hs ⊢
        by_cases g1 : l[k].block = r.map[j].block
        · refine ct (by simp [g1]) ?_
          by_cases g2 : l[k].at_ = r.map[j].at_
          · refine ct (by simp [g2]) ?_
            by_cases g3 : l[k].kind = 0
            · refine ct (by simp [g3]) ?_
              by_cases g4 : l[k].owner = r.map[j].owner
              · refine ct (by simp [g4]) (hs _ ?_)
                simp only [isB, eqI, g1, g2, g3, g4]
                by_cases g5 : l[k].logic = r.map[j].logic <;> simp [g5]
              · exact cf (by simp [g4]) (hs _ (by simp [isB, g4]))
            · exact cf (by simp [g3]) (hs _ (by simp [isB, g3]))
          · exact cf (by simp [g2]) (hs _ (by simp [isB, g2]))
        · exact cf (by simp [g1]) (hs _ (by simp [isB, g1]))
      · rw [ha'] at hs
        exact hs _ rfl
    · refine cf (by simp; omega) ?_
      have hkl : k = l.length := by omega
      subst hkl
      rw [take_all]
      cases hb : l.any (isB r.map[j])
      · have hf : holdsB l r.map = false := by
          rw [holdsB, List.all_eq_false]
          exact ⟨r.map[j], List.getElem_mem _, by simp [hb]⟩
        rw [hf]; rfl
      · have hadd : ad .i64 (j : Int) 1 = ((j + 1 : Nat) : Int) := by rw [ad64 (by omega) (by omega)]; rfl
        simp only [Bool.not_true, cond_false]
        rw [hadd]
        refine hrec2 _ ⟨j + 1, rfl, by omega, ?_⟩ (by simp; omega)
        rw [List.take_succ_eq_append_getElem h4, List.all_append, ha]
        simp [hb]
  · refine cf (by simp; omega) ?_
    have hjl : j = r.map.length := by omega
    subst hjl
    rw [take_all] at ha
    rw [holdsB, ha]
end Go.AM.SP
set_option linter.all false
set_option autoImplicit false
namespace Go.AM.SP
open Go Go.AM
def ddg (p : Int) : List Int → List Int
  | [] => []
  | y :: ys => if y = p then ddg p ys else y :: ddg y ys
def dd : List Int → List Int
  | [] => []
  | x :: xs => x :: ddg x xs
theorem ddg_snoc (a b : Int) : ∀ (ys : List Int) (p : Int), ddg p (ys ++ [a, b]) = ddg p (ys ++ [a]) ++ (if b = a then [] else [b])
  | [], p => by
    by_cases h : a = p
    · subst h; by_cases h2 : b = a <;> simp [ddg, h2]
    · by_cases h2 : b = a <;> simp [ddg, h, h2]
  | y :: ys, p => by
    by_cases h : y = p
    · simp [ddg, h, ddg_snoc a b ys]
    · simp [ddg, h, ddg_snoc a b ys]
theorem dd_snoc (a b : Int) : ∀ ys : List Int, dd (ys ++ [a, b]) = dd (ys ++ [a]) ++ (if b = a then [] else [b])
  | [] => by by_cases h2 : b = a <;> simp [dd, ddg, h2]
  | y :: ys => by simp [dd, ddg_snoc]
theorem dd_take {xs : List Int} {n : Nat} (h1 : 1 ≤ n) (h2 : n < xs.length) : dd (xs.take (n + 1)) = dd (xs.take n) ++ (if xs[n] = xs[n - 1] then [] else [xs[n]]) := by
  obtain ⟨m, rfl⟩ : ∃ m, n = m + 1 := ⟨n - 1, by omega⟩
  have e1 : xs.take (m + 1) = xs.take m ++ [xs[m]] := List.take_succ_eq_append_getElem (by omega)
  have e2 : xs.take (m + 1 + 1) = xs.take m ++ [xs[m], xs[m + 1]] := by
    rw [List.take_succ_eq_append_getElem (by omega), e1, List.append_assoc]; rfl
  rw [e1, e2, dd_snoc]; simp
theorem ix_map' {xs : List Int} {tl : List D} {j : Nat} (h : j < xs.length) : ix (xs.map (D.int .i64) ++ tl) j = di xs[j] := by
  rw [ix_eq (by simp; omega)]
  rw [List.getElem_append_left (by simpa using h)]; simp
theorem ix_set_ne {l : List D} {a j : Nat} {v : D} (h : a ≠ j) : ix (l.set a v) j = ix l j := by
  simp [ix, List.getD_eq_getElem?_getD, List.getElem?_set, h]
theorem take_set_succ {l : List D} {a : Nat} {v : D} (h : a < l.length) : (l.set a v).take (a + 1) = l.take a ++ [v] := by
  rw [List.take_succ_eq_append_getElem (by simpa using h)]
  simp [List.take_set_of_le]
theorem dd_short {xs : List Int} (h : xs.length < 2) : dd xs = xs := by
  match xs, h with
  | [], _ => rfl
  | [x], _ => rfl
section
variable {S S9 X X9 : Type} {M : Nat}
theorem compact_in {st : S9 → (S9 → Option D) → (X9 → Option D) → Option D} {mk : Nat → Nat → Int → Nat → Nat → Int → List D → S9} {ex : Nat → Nat → Int → List D → X9}
    (h : ∀ n1 n2 i n3 n4 j l rec K, st (mk n1 n2 i n3 n4 j l) rec K = (cond (ltI j (nI n4)) (cond (inb j n4) (cond (inb (sb .i64 j 1) n4) (cond (neI (ix l (n3 + j.toNat)).i (ix l (n3 + (sb .i64 j 1).toNat)).i) (cond (inb j n4) (cond (inb i n2) (rec (mk n1 n2 (ad .i64 i 1) n3 n4 (ad .i64 j 1) (l.set (n1 + i.toNat) (ix l (n3 + j.toNat))))) none) none) (rec (mk n1 n2 i n3 n4 (ad .i64 j 1) l))) none) none) (K (ex n1 n2 i l))))
    {xs : List Int} {L k : Nat} (hL : xs.length ≤ L) (hx : xs.length ≤ 1048576) (hM : 1048576 ≤ M) (K : X9 → Option D) (l0 : List D) (hl0 : l0.length = L)
    (hk1 : 1 ≤ k) (hk : k < xs.length) (h0 : ∀ j, k ≤ j → (hj : j < xs.length) → ix l0 j = di xs[j]) (ht : l0.take k = (dd (xs.take (k + 1))).map (D.int .i64)) :
    ∃ (a : Nat) (l : List D), a ≤ xs.length ∧ l.length = L ∧ l.take a = (dd xs).map (D.int .i64) ∧ goS st M (mk 0 xs.length k k (xs.length - k) 1 l0) K = K (ex 0 xs.length a l) := by
  have gen : ∀ N (a b : Nat) (l : List D), xs.length - k - b ≤ N → 1 ≤ b → b ≤ xs.length - k → a < k + b → l.length = L →
      (∀ j, k + b - 1 ≤ j → (hj : j < xs.length) → ix l j = di xs[j]) → l.take a = (dd (xs.take (k + b))).map (D.int .i64) →
      ∃ (a' : Nat) (l' : List D), a' ≤ xs.length ∧ l'.length = L ∧ l'.take a' = (dd xs).map (D.int .i64) ∧ goS st N (mk 0 xs.length a k (xs.length - k) b l) K = K (ex 0 xs.length a' l') := by
    intro N
    induction N with
    | zero =>
      intro a b l hN hb1 hb2 hab hl hix hta
      have hb : b = xs.length - k := by omega
      subst hb
      refine ⟨a, l, by omega, hl, ?_, ?_⟩
      · rw [hta, show k + (xs.length - k) = xs.length by omega, take_all]
      · simp only [goS]
        rw [h]
        exact cf (by simp) rfl
    | succ N ih =>
      intro a b l hN hb1 hb2 hab hl hix hta
      by_cases hb : b = xs.length - k
      · subst hb
        refine ⟨a, l, by omega, hl, ?_, ?_⟩
        · rw [hta, show k + (xs.length - k) = xs.length by omega, take_all]
        · simp only [goS]
          rw [h]
          exact cf (by simp) rfl
      · have hsb : sb .i64 (b : Int) 1 = ((b - 1 : Nat) : Int) := by rw [sb64 (by omega) (by omega)]; omega
        have hadd : ∀ c : Nat, c ≤ 1048576 → ad .i64 (c : Int) 1 = ((c + 1 : Nat) : Int) := by intro c hc; rw [ad64 (by omega) (by omega)]; rfl
        have x1 : ix l (k + b) = di xs[k + b] := hix _ (by omega) (by omega)
        have x2 : ix l (k + (b - 1)) = di xs[k + b - 1] := by
          have := hix (k + b - 1) (by omega) (by omega)
          rwa [show k + (b - 1) = k + b - 1 by omega]
        have hdd := dd_take (xs := xs) (n := k + b) (by omega) (by omega)
        have hlen : a ≤ xs.length := by omega
        by_cases hne : xs[k + b] = xs[k + b - 1]
        · obtain ⟨a', l', r1, r2, r3, r4⟩ := ih a (b + 1) l (by omega) (by omega) (by omega) (by omega) hl (fun j hj hj' => hix j (by omega) hj') (by rw [hta, show k + (b + 1) = k + b + 1 by omega, hdd]; simp [hne])
          refine ⟨a', l', r1, r2, r3, ?_⟩
          simp only [goS]
          rw [h]
          refine ct (by simp; omega) (ct (by simp; omega) (ct (by rw [hsb]; simp; omega) (cf ?_ ?_)))
          · rw [hsb, Int.toNat_natCast, Int.toNat_natCast, x1, x2]; simp [hne]
          · rw [hadd b (by omega)]; exact r4
        · obtain ⟨a', l', r1, r2, r3, r4⟩ := ih (a + 1) (b + 1) (l.set a (di xs[k + b])) (by omega) (by omega) (by omega) (by omega) (by simpa using hl) (fun j hj hj' => by rw [ix_set_ne (by omega)]; exact hix j (by omega) hj') (by rw [take_set_succ (by omega), hta, show k + (b + 1) = k + b + 1 by omega, hdd]; simp [hne])
          refine ⟨a', l', r1, r2, r3, ?_⟩
          simp only [goS]
          rw [h]
          refine ct (by simp; omega) (ct (by simp; omega) (ct (by rw [hsb]; simp; omega) (ct ?_ (ct (by simp; omega) (ct (by simp; omega) ?_)))))
          · rw [hsb, Int.toNat_natCast, Int.toNat_natCast, x1, x2]; simp [hne]
          · rw [hadd b (by omega), hadd a (by omega), Int.toNat_natCast, Int.toNat_natCast, x1, Nat.zero_add]; exact r4
  exact gen M k 1 l0 (by omega) (by omega) (by omega) (by omega) hl0 (fun j hj hj' => h0 j (by omega) hj') ht
theorem compact_out {st9 : S9 → (S9 → Option D) → (X9 → Option D) → Option D} {mk9 : Nat → Nat → Int → Nat → Nat → Int → List D → S9} {ex9 : Nat → Nat → Int → List D → X9}
    {st : S → (S → Option D) → (X → Option D) → Option D} {mk : Nat → Nat → Int → List D → S} {ex0 : Nat → Nat → Int → List D → X} {ex1 : Nat → Nat → List D → X}
    (h9 : ∀ n1 n2 i n3 n4 j l rec K, st9 (mk9 n1 n2 i n3 n4 j l) rec K = (cond (ltI j (nI n4)) (cond (inb j n4) (cond (inb (sb .i64 j 1) n4) (cond (neI (ix l (n3 + j.toNat)).i (ix l (n3 + (sb .i64 j 1).toNat)).i) (cond (inb j n4) (cond (inb i n2) (rec (mk9 n1 n2 (ad .i64 i 1) n3 n4 (ad .i64 j 1) (l.set (n1 + i.toNat) (ix l (n3 + j.toNat))))) none) none) (rec (mk9 n1 n2 i n3 n4 (ad .i64 j 1) l))) none) none) (K (ex9 n1 n2 i l))))
    (h : ∀ K, ∃ K9 : X9 → Option D, (∀ n1 n2 i l rec, st (mk n1 n2 i l) rec K = (cond (ltI i (nI n2)) (cond (inb i n2) (cond (inb (sb .i64 i 1) n2) (cond (eqI (ix l (n1 + i.toNat)).i (ix l (n1 + (sb .i64 i 1).toNat)).i) (cond ((leI 0 i) && (leI i (nI n2)) && (leN (n1 + n2) l.length)) (goS st9 M (mk9 n1 n2 i (n1 + i.toNat) (n2 - i.toNat) 1 l) K9) none) (rec (mk n1 n2 (ad .i64 i 1) l))) none) none) (K (ex1 n1 n2 l)))) ∧
      ∀ n1 n2 i l, K9 (ex9 n1 n2 i l) = (cond ((leI 0 i) && (leI i (nI n2)) && (leN (n1 + n2) l.length)) (cond (true && (leI 0 i) && (leN (n1 + i.toNat) (ap (ap (l.take (n1 + i.toNat)) (rp (n2 - i.toNat) (di 0))) (l.drop ((n1 + i.toNat) + (n2 - i.toNat)))).length)) (K (ex0 n1 n2 i l)) none) none))
    {xs : List Int} (hx : xs.length ≤ 1048576) (hM : 1048576 ≤ M) (tl : List D) (h2 : 1 ≤ xs.length) (K : X → Option D) :
    (∃ (a : Nat) (l : List D), a ≤ xs.length ∧ l.length = xs.length + tl.length ∧ l.take a = (dd xs).map (D.int .i64) ∧ goS st M (mk 0 xs.length 1 (xs.map (D.int .i64) ++ tl)) K = K (ex0 0 xs.length a l)) ∨
    (dd xs = xs ∧ goS st M (mk 0 xs.length 1 (xs.map (D.int .i64) ++ tl)) K = K (ex1 0 xs.length (xs.map (D.int .i64) ++ tl))) := by
  obtain ⟨K9, hs, hk9⟩ := h K
  generalize hl0 : xs.map (D.int .i64) ++ tl = l0
  have hlen0 : l0.length = xs.length + tl.length := by rw [← hl0]; simp
  have hix : ∀ j, (hj : j < xs.length) → ix l0 j = di xs[j] := by intro j hj; rw [← hl0]; exact ix_map' hj
  have htk : ∀ k, k ≤ xs.length → l0.take k = (xs.take k).map (D.int .i64) := by
    intro k hk
    rw [← hl0, List.take_append_of_le_length (by simpa using hk), List.map_take]
  have gen : ∀ N (k : Nat), xs.length - k ≤ N → 1 ≤ k → k ≤ xs.length → dd (xs.take k) = xs.take k →
      (∃ (a : Nat) (l : List D), a ≤ xs.length ∧ l.length = xs.length + tl.length ∧ l.take a = (dd xs).map (D.int .i64) ∧ goS st N (mk 0 xs.length k l0) K = K (ex0 0 xs.length a l)) ∨
      (dd xs = xs ∧ goS st N (mk 0 xs.length k l0) K = K (ex1 0 xs.length l0)) := by
    intro N
    have base : ∀ N, dd (xs.take xs.length) = xs.take xs.length → (dd xs = xs ∧ goS st N (mk 0 xs.length xs.length l0) K = K (ex1 0 xs.length l0)) := by
      intro N hd
      rw [take_all] at hd
      refine ⟨hd, ?_⟩
      cases N <;> (simp only [goS]; rw [hs]; exact cf (by simp) rfl)
    induction N with
    | zero =>
      intro k hN hk1 hk hd
      have : k = xs.length := by omega
      subst this
      exact .inr (base _ hd)
    | succ N ih =>
      intro k hN hk1 hk hd
      by_cases hkl : k = xs.length
      · subst hkl
        exact .inr (base _ hd)
      · have hsb : sb .i64 (k : Int) 1 = ((k - 1 : Nat) : Int) := by rw [sb64 (by omega) (by omega)]; omega
        have hadd : ad .i64 (k : Int) 1 = ((k + 1 : Nat) : Int) := by rw [ad64 (by omega) (by omega)]; rfl
        have x1 : ix l0 k = di xs[k] := hix _ (by omega)
        have x2 : ix l0 (k - 1) = di xs[k - 1] := hix _ (by omega)
        have hdd := dd_take (xs := xs) (n := k) (by omega) (by omega)
        simp only [goS]
        rw [hs, hsb, hadd, Int.toNat_natCast, Int.toNat_natCast, Nat.zero_add, Nat.zero_add, x1, x2]
        have e1 : ltI (k : Int) (nI xs.length) = true := by simp; omega
        have e2 : inb (k : Int) xs.length = true := by simp; omega
        have e3 : inb ((k - 1 : Nat) : Int) xs.length = true := by simp; omega
        rw [e1, e2, e3]
        simp only [cond_true]
        by_cases hne : xs[k] = xs[k - 1]
        · have e4 : eqI (di xs[k]).i (di xs[k - 1]).i = true := by simp [hne]
          have e5 : ((leI 0 (k : Int)) && (leI (k : Int) (nI xs.length)) && (leN (0 + xs.length) l0.length)) = true := by simp; omega
          rw [e4, e5]
          simp only [cond_true]
          obtain ⟨a, l, r1, r2, r3, r4⟩ := compact_in h9 (L := xs.length + tl.length) (k := k) (by omega) hx hM K9 l0 hlen0 (by omega) (by omega) (fun j _ hj => hix j hj) (by rw [hdd, hd, htk k (by omega)]; simp [hne])
          refine .inl ⟨a, l, r1, r2, r3, ?_⟩
          rw [r4, hk9]
          refine ct (by simp; omega) (ct ?_ rfl)
          simp [ap, rp]
          omega
        · have e4 : eqI (di xs[k]).i (di xs[k - 1]).i = false := by simp [hne]
          rw [e4]
          simp only [cond_false]
          refine ih (k + 1) (by omega) (by omega) (by omega) ?_
          rw [hdd, hd, List.take_succ_eq_append_getElem (by omega)]; simp [hne]
  exact gen M 1 (by omega) (by omega) (by omega) (dd_short (by simp; omega))
def odd (b : Int) : Bool := decide (b < 0) || decide (64 ≤ b)
theorem odd_ok (b : Int) : F38.s FUEL b = some (db (odd b)) := by
  unfold F38.s odd
  by_cases h : b < 0
  · simp [ltI, h]
  · simp [ltI, geI, h]
theorem index_ok {st : S → (S → Option D) → (X → Option D) → Option D} {mk : Nat → Nat → Int → Int → List D → S} {ex0 : Int → List D → X} {ex1 : List D → X}
    (h : ∀ n m i j l rec K, st (mk n m i j l) rec K = (cond (ltI j i) (cond (inb j m) (bd (F38.s FUEL (ix l (n + j.toNat)).i) fun r => (cond r.b (K (ex0 j l)) (rec (mk n m i (ad .i64 j 1) l)))) none) (K (ex1 l))))
    {xs : List Int} (hx : xs.length ≤ 1048576) (hM : 1048576 ≤ M) (K : X → Option D) :
    (∃ k : Nat, ∃ hk : k < xs.length, odd xs[k] = true ∧ (xs.take k).filter (fun b => !odd b) = xs.take k ∧ goS st M (mk 0 xs.length xs.length 0 (xs.map (D.int .i64))) K = K (ex0 k (xs.map (D.int .i64)))) ∨
    (xs.filter (fun b => !odd b) = xs ∧ goS st M (mk 0 xs.length xs.length 0 (xs.map (D.int .i64))) K = K (ex1 (xs.map (D.int .i64)))) := by
  have gen : ∀ N (k : Nat), xs.length - k ≤ N → k ≤ xs.length → (xs.take k).filter (fun b => !odd b) = xs.take k →
      (∃ k' : Nat, ∃ hk : k' < xs.length, odd xs[k'] = true ∧ (xs.take k').filter (fun b => !odd b) = xs.take k' ∧ goS st N (mk 0 xs.length xs.length k (xs.map (D.int .i64))) K = K (ex0 k' (xs.map (D.int .i64)))) ∨
      (xs.filter (fun b => !odd b) = xs ∧ goS st N (mk 0 xs.length xs.length k (xs.map (D.int .i64))) K = K (ex1 (xs.map (D.int .i64)))) := by
    intro N
    have base : ∀ N, (xs.take xs.length).filter (fun b => !odd b) = xs.take xs.length → (xs.filter (fun b => !odd b) = xs ∧ goS st N (mk 0 xs.length xs.length xs.length (xs.map (D.int .i64))) K = K (ex1 (xs.map (D.int .i64)))) := by
      intro N hd
      rw [take_all] at hd
      refine ⟨hd, ?_⟩
      cases N <;> (simp only [goS]; rw [h]; exact cf (by simp) rfl)
    induction N with
    | zero =>
      intro k hN hk hd
      have : k = xs.length := by omega
      subst this
      exact .inr (base _ hd)
    | succ N ih =>
      intro k hN hk hd
      by_cases hkl : k = xs.length
      · subst hkl
        exact .inr (base _ hd)
      · have hadd : ad .i64 (k : Int) 1 = ((k + 1 : Nat) : Int) := by rw [ad64 (by omega) (by omega)]; rfl
        have x1 : ix (xs.map (D.int .i64)) k = di xs[k] := ix_map (by omega)
        simp only [goS]
        rw [h, hadd, Int.toNat_natCast, Nat.zero_add, x1]
        have e1 : ltI (k : Int) (xs.length : Int) = true := by simp; omega
        have e2 : inb (k : Int) xs.length = true := by simp; omega
        rw [e1, e2]
        simp only [cond_true, i_int, odd_ok, bd, b_bool]
        cases ho : odd xs[k]
        · simp only [cond_false]
          refine ih (k + 1) (by omega) (by omega) ?_
          rw [List.take_succ_eq_append_getElem (by omega), List.filter_append, hd]; simp [ho]
        · exact .inl ⟨k, by omega, ho, hd, rfl⟩
  exact gen M 0 (by omega) (by omega) (by simp)
theorem delete_ok {st : S → (S → Option D) → (X → Option D) → Option D} {mk : Nat → Nat → Int → Int → List D → S} {ex : Nat → Nat → Int → List D → X}
    (h : ∀ n m i j l rec K, st (mk n m i j l) rec K = (cond (ltI j (nI m)) (cond (inb j m) (bd (F38.s FUEL (ix l (n + j.toNat)).i) fun r => (cond (!r.b) (cond (inb i m) (rec (mk n m (ad .i64 i 1) (ad .i64 j 1) (l.set (n + i.toNat) (ix l (n + j.toNat))))) none) (rec (mk n m i (ad .i64 j 1) l)))) none) (K (ex n m i l))))
    {xs : List Int} (hx : xs.length ≤ 1048576) (hM : 1048576 ≤ M) (K : X → Option D) {k : Nat} (hk : k < xs.length) (ho : odd xs[k] = true) (hf : (xs.take k).filter (fun b => !odd b) = xs.take k) :
    ∃ (a : Nat) (l : List D), a ≤ xs.length ∧ l.length = xs.length ∧ l.take a = (xs.filter (fun b => !odd b)).map (D.int .i64) ∧ goS st M (mk 0 xs.length k (ad .i64 k 1) (xs.map (D.int .i64))) K = K (ex 0 xs.length a l) := by
  have hadd : ∀ c : Nat, c ≤ 1048576 → ad .i64 (c : Int) 1 = ((c + 1 : Nat) : Int) := by intro c hc; rw [ad64 (by omega) (by omega)]; rfl
  have gen : ∀ N (a b : Nat) (l : List D), xs.length - b ≤ N → a < b → b ≤ xs.length → l.length = xs.length → (∀ j, b ≤ j → (hj : j < xs.length) → ix l j = di xs[j]) →
      l.take a = ((xs.take b).filter (fun b => !odd b)).map (D.int .i64) →
      ∃ (a' : Nat) (l' : List D), a' ≤ xs.length ∧ l'.length = xs.length ∧ l'.take a' = (xs.filter (fun b => !odd b)).map (D.int .i64) ∧ goS st N (mk 0 xs.length a b l) K = K (ex 0 xs.length a' l') := by
    intro N
    have base : ∀ N (a : Nat) (l : List D), a < xs.length → l.length = xs.length → l.take a = ((xs.take xs.length).filter (fun b => !odd b)).map (D.int .i64) →
        ∃ (a' : Nat) (l' : List D), a' ≤ xs.length ∧ l'.length = xs.length ∧ l'.take a' = (xs.filter (fun b => !odd b)).map (D.int .i64) ∧ goS st N (mk 0 xs.length a xs.length l) K = K (ex 0 xs.length a' l') := by
      intro N a l ha hl ht
      rw [take_all] at ht
      refine ⟨a, l, by omega, hl, ht, ?_⟩
      cases N <;> (simp only [goS]; rw [h]; exact cf (by simp) rfl)
    induction N with
    | zero =>
      intro a b l hN hab hb hl hix ht
      have : b = xs.length := by omega
      subst this
      exact base _ a l hab hl ht
    | succ N ih =>
      intro a b l hN hab hb hl hix ht
      by_cases hbl : b = xs.length
      · subst hbl
        exact base _ a l hab hl ht
      · have x1 := hix b (by omega) (by omega)
        simp only [goS]
        rw [h, hadd b (by omega), hadd a (by omega), Int.toNat_natCast, Int.toNat_natCast, Nat.zero_add, Nat.zero_add, x1]
        have e1 : ltI (b : Int) (nI xs.length) = true := by simp; omega
        have e2 : inb (b : Int) xs.length = true := by simp; omega
        have e3 : inb (a : Int) xs.length = true := by simp; omega
        rw [e1, e2, e3]
        simp only [cond_true, i_int, odd_ok, bd, b_bool]
        have hstep : (xs.take (b + 1)).filter (fun b => !odd b) = (xs.take b).filter (fun b => !odd b) ++ (if odd xs[b] then [] else [xs[b]]) := by
          rw [List.take_succ_eq_append_getElem (by omega), List.filter_append]
          cases ho9 : odd xs[b] <;> simp [ho9]
        cases ho : odd xs[b]
        · simp only [Bool.not_false, cond_true]
          rw [ho] at hstep
          exact ih (a + 1) (b + 1) _ (by omega) (by omega) (by omega) (by simpa using hl) (fun j hj hj' => by rw [ix_set_ne (by omega)]; exact hix j (by omega) hj') (by rw [take_set_succ (by omega), ht, hstep]; simp)
        · simp only [Bool.not_true, cond_false]
          rw [ho] at hstep
          exact ih a (b + 1) l (by omega) (by omega) (by omega) hl (fun j hj hj' => hix j (by omega) hj') (by rw [ht, hstep]; simp)
  rw [hadd k (by omega)]
  refine gen M k (k + 1) _ (by omega) (by omega) (by omega) (by simp) (fun j _ hj => ix_map hj) ?_
  rw [List.take_succ_eq_append_getElem (by omega), List.filter_append, hf, ← List.map_take]; simp [ho]
end
end Go.AM.SP
set_option linter.all false
set_option autoImplicit false
namespace Go.AM.SP
open Go Go.AM
def blocksOf (xs : List Int) : List Int := dd (isort (xs.filter fun b => !odd b))
theorem isort_len (l : List Int) : (isort l).length = l.length := (isort_perm l).length_eq
theorem sortD_ints (xs : List Int) : sortD (xs.map (D.int .i64)) = (isort xs).map (D.int .i64) := by
  rw [sortD_eq]; unfold isortD
  congr 2
  rw [List.map_map]; exact List.map_id'' (fun _ => rfl) xs
theorem take_app {xs : List Int} {n : Nat} {tl : List D} (h : n = xs.length) : (xs.map (D.int .i64) ++ tl).take n = xs.map (D.int .i64) := by
  subst h; rw [List.take_append_of_le_length (by simp), List.take_of_length_le (by simp)]
def ownX (l : List Sp) (o : Int) : List Int := (l.filter fun s => s.kind == 0 && s.owner == o).map Sp.block
theorem F15_last (b : Bool) {s : List Int} (hs : s.length ≤ 1048576) (tl : List D) (h2 : 1 ≤ s.length) (K : F15.X29_4 → Option D) (R : Option D)
    (h0 : ∀ (a : Nat) l, a ≤ s.length → l.length = s.length + tl.length → l.take a = (dd s).map (D.int .i64) → K (.e0 0 s.length (a : Int) b l) = R)
    (h1 : dd s = s → K (.e1 0 s.length b (s.map (D.int .i64) ++ tl)) = R) : goS (F15.st29_4 FUEL) FUEL ⟨0, s.length, 1, b, s.map (D.int .i64) ++ tl⟩ K = R := by
  rcases compact_out (st9 := F15.st29_9 FUEL) (st := F15.st29_4 FUEL) (mk9 := (fun n1 n2 i n3 n4 j l => ⟨n1, n2, i, n3, n4, j, b, l⟩)) (ex9 := (fun n m i l => .e0 n m i b l)) (mk := (fun n1 n2 i l => ⟨n1, n2, i, b, l⟩)) (ex0 := (fun n m i l => .e0 n m i b l)) (ex1 := (fun n m l => .e1 n m b l)) (fun _ _ _ _ _ _ _ _ _ => rfl) (fun K => ⟨_, fun _ _ _ _ _ => rfl, fun _ _ _ _ => rfl⟩) hs (by simp [FUEL]) tl h2 K with ⟨a, l, r1, r2, r3, r4⟩ | ⟨r1, r2⟩
  · exact r4.trans (h0 a l r1 r2 r3)
  · exact r2.trans (h1 r1)
theorem F15_tail (b : Bool) (xs : List Int) (hx : xs.length ≤ 1048576) : (goS (F15.st55_2 FUEL) FUEL ⟨0, xs.length, (nI xs.length), 0, b, xs.map (D.int .i64)⟩ (fun x : F15.X55_2 => match x with | .e0 i12 b13 l14 => (cond (eqI i12 (-1)) (cond (true && (mx xs.length)) (cond (ltI (nI xs.length) 2) (some (dl b13 (((ap (ap (l14.take 0) (sortD ((l14.drop 0).take xs.length))) (l14.drop (0 + xs.length))).drop 0).take xs.length))) (goS (F15.st29_4 FUEL) FUEL ⟨0, xs.length, 1, b13, (ap (ap (l14.take 0) (sortD ((l14.drop 0).take xs.length))) (l14.drop (0 + xs.length)))⟩ fun x => match x with | .e0 n21 n22 i23 b27 l28 => (some (dl b27 (((ap (ap (l28.take (n21 + i23.toNat)) (rp (n22 - i23.toNat) (di 0))) (l28.drop ((n21 + i23.toNat) + (n22 - i23.toNat)))).drop (n21 + 0)).take (i23.toNat - 0)))) | .e1 n16 n17 b19 l20 => (some (dl b19 ((l20.drop n16).take n17))))) none) (goS (F15.st37_5 FUEL) FUEL ⟨0, xs.length, i12, (ad .i64 i12 1), b13, l14⟩ fun x => match x with | .e0 n29 n30 i31 b33 l34 => (cond ((leI 0 i31) && (leI i31 (nI n30)) && (leN (n29 + n30) l34.length)) (cond (true && (leI 0 i31) && (leN (n29 + i31.toNat) (ap (ap (l34.take (n29 + i31.toNat)) (rp (n30 - i31.toNat) (di 0))) (l34.drop ((n29 + i31.toNat) + (n30 - i31.toNat)))).length)) (cond (true && (mx (i31.toNat - 0))) (cond (ltI (nI (i31.toNat - 0)) 2) (some (dl b33 (((ap (ap ((ap (ap (l34.take (n29 + i31.toNat)) (rp (n30 - i31.toNat) (di 0))) (l34.drop ((n29 + i31.toNat) + (n30 - i31.toNat)))).take (n29 + 0)) (sortD (((ap (ap (l34.take (n29 + i31.toNat)) (rp (n30 - i31.toNat) (di 0))) (l34.drop ((n29 + i31.toNat) + (n30 - i31.toNat)))).drop (n29 + 0)).take (i31.toNat - 0)))) ((ap (ap (l34.take (n29 + i31.toNat)) (rp (n30 - i31.toNat) (di 0))) (l34.drop ((n29 + i31.toNat) + (n30 - i31.toNat)))).drop ((n29 + 0) + (i31.toNat - 0)))).drop (n29 + 0)).take (i31.toNat - 0)))) (goS (F15.st29_4 FUEL) FUEL ⟨(n29 + 0), (i31.toNat - 0), 1, b33, (ap (ap ((ap (ap (l34.take (n29 + i31.toNat)) (rp (n30 - i31.toNat) (di 0))) (l34.drop ((n29 + i31.toNat) + (n30 - i31.toNat)))).take (n29 + 0)) (sortD (((ap (ap (l34.take (n29 + i31.toNat)) (rp (n30 - i31.toNat) (di 0))) (l34.drop ((n29 + i31.toNat) + (n30 - i31.toNat)))).drop (n29 + 0)).take (i31.toNat - 0)))) ((ap (ap (l34.take (n29 + i31.toNat)) (rp (n30 - i31.toNat) (di 0))) (l34.drop ((n29 + i31.toNat) + (n30 - i31.toNat)))).drop ((n29 + 0) + (i31.toNat - 0))))⟩ fun x => match x with | .e0 n21 n22 i23 b27 l28 => (some (dl b27 (((ap (ap (l28.take (n21 + i23.toNat)) (rp (n22 - i23.toNat) (di 0))) (l28.drop ((n21 + i23.toNat) + (n22 - i23.toNat)))).drop (n21 + 0)).take (i23.toNat - 0)))) | .e1 n16 n17 b19 l20 => (some (dl b19 ((l20.drop n16).take n17))))) none) none) none))) | .e1 b13 l14 => (cond (true && (mx xs.length)) (cond (ltI (nI xs.length) 2) (some (dl b13 (((ap (ap (l14.take 0) (sortD ((l14.drop 0).take xs.length))) (l14.drop (0 + xs.length))).drop 0).take xs.length))) (goS (F15.st29_4 FUEL) FUEL ⟨0, xs.length, 1, b13, (ap (ap (l14.take 0) (sortD ((l14.drop 0).take xs.length))) (l14.drop (0 + xs.length)))⟩ fun x => match x with | .e0 n21 n22 i23 b27 l28 => (some (dl b27 (((ap (ap (l28.take (n21 + i23.toNat)) (rp (n22 - i23.toNat) (di 0))) (l28.drop ((n21 + i23.toNat) + (n22 - i23.toNat)))).drop (n21 + 0)).take (i23.toNat - 0)))) | .e1 n16 n17 b19 l20 => (some (dl b19 ((l20.drop n16).take n17))))) none))) = some (dl b ((blocksOf xs).map (D.int .i64))) := by
  rcases index_ok (st := F15.st55_2 FUEL) (mk := (fun n m i j l => ⟨n, m, i, j, b, l⟩)) (ex0 := (fun j l => .e0 j b l)) (ex1 := (fun l => .e1 b l)) (fun _ _ _ _ _ _ _ => rfl) hx (M := FUEL) (by simp [FUEL]) _ with ⟨k, hk, ho, hf, e⟩ | ⟨hf, e⟩
  · refine e.trans ?_
    refine cf (by simp <;> omega) ?_
    obtain ⟨a, l, r1, r2, r3, r4⟩ := delete_ok (st := F15.st37_5 FUEL) (mk := (fun n m i j l => ⟨n, m, i, j, b, l⟩)) (ex := (fun n m i l => .e0 n m i b l)) (fun _ _ _ _ _ _ _ => rfl) hx (M := FUEL) (by simp [FUEL]) _ hk ho hf
    refine r4.trans ?_
    have hY : (xs.filter fun b => !odd b).length = a := by
      have := congrArg List.length r3
      simp at this; rw [← this]; omega
    generalize hYd : (xs.filter fun b => !odd b) = Y at r3 hY
    refine ct (by simp; omega) (ct (by simp [ap, rp]; omega) (ct (by simp; omega) ?_))
    have hb : blocksOf xs = dd (isort Y) := by rw [blocksOf, hYd]
    rw [hb]
    simp only [Nat.zero_add, Nat.sub_zero, Int.toNat_natCast, List.drop_zero, List.take_zero]
    have t1 : (ap (ap (l.take a) (rp (xs.length - a) (di 0))) (l.drop (a + (xs.length - a)))).take a = Y.map (D.int .i64) := by
      rw [r3]
      unfold ap
      rw [List.append_assoc, take_app (by omega)]
    rw [t1, sortD_ints]
    generalize (ap (ap (l.take a) (rp (xs.length - a) (di 0))) (l.drop (a + (xs.length - a)))).drop a = tl
    have e0 : ap (ap [] ((isort Y).map (D.int .i64))) tl = (isort Y).map (D.int .i64) ++ tl := rfl
    rw [e0]
    have hl : a = (isort Y).length := by rw [isort_len]; omega
    rw [hl]
    cases h2 : ltI (nI (isort Y).length) 2
    · have h2' : 2 ≤ (isort Y).length := by simp at h2; omega
      refine F15_last _ (by rw [← hl]; omega) tl (by omega) _ _ ?_ ?_
      · intro a' l' g1 g2 g3
        simp only [Nat.zero_add, Nat.sub_zero, Int.toNat_natCast, List.drop_zero]
        rw [g3]
        unfold ap
        rw [List.append_assoc, take_app (by have := congrArg List.length g3; simp at this; omega)]
      · intro g
        simp only [List.drop_zero]
        rw [take_app rfl, g]
    · have h2' : (isort Y).length < 2 := by simp at h2; omega
      simp only [cond_true]
      rw [take_app rfl, dd_short h2']
  · refine e.trans ?_
    refine ct (by simp; omega) ?_
    have hb : blocksOf xs = dd (isort xs) := by rw [blocksOf, hf]
    rw [hb]
    simp only [Nat.zero_add, List.drop_zero, List.take_zero]
    rw [show (xs.map (D.int .i64)).take xs.length = xs.map (D.int .i64) from List.take_of_length_le (by simp), sortD_ints, show (xs.map (D.int .i64)).drop xs.length = [] from List.drop_of_length_le (by simp)]
    have e0 : ap (ap [] ((isort xs).map (D.int .i64))) [] = (isort xs).map (D.int .i64) ++ [] := rfl
    rw [e0]
    have hl : xs.length = (isort xs).length := by rw [isort_len]
    rw [hl]
    cases h2 : ltI (nI (isort xs).length) 2
    · have h2' : 2 ≤ (isort xs).length := by simp at h2; omega
      refine F15_last _ (by rw [← hl]; omega) [] (by omega) _ _ ?_ ?_
      · intro a' l' g1 g2 g3
        simp only [Nat.zero_add, Nat.sub_zero, Int.toNat_natCast, List.drop_zero]
        rw [g3]
        unfold ap
        rw [List.append_assoc, take_app (by have := congrArg List.length g3; simp at this; omega)]
      · intro g
        simp only [List.drop_zero]
        rw [take_app rfl, g]
    · have h2' : (isort xs).length < 2 := by simp at h2; omega
      simp only [cond_true]
      rw [take_app rfl, dd_short h2']
theorem ownX_len (l : List Sp) (o : Int) : (ownX l o).length ≤ l.length := by
  unfold ownX
  rw [List.length_map]
  exact List.length_filter_le _ _
theorem F15_head (nn : Bool) (l : List Sp) (o : Int) (hl : l.length ≤ 1048576) (K : F15.X3 → Option D) : ∃ b, goS (F15.st3 FUEL) FUEL ⟨o, 0, 0, dl nn (l.map Sp.enc), (nI (l.map Sp.enc).length), 0, false, []⟩ K = K (.e0 0 (ownX l o).length b ((ownX l o).map (D.int .i64))) := by
  have hlen : ∀ k, (ownX (l.take k) o).length ≤ l.length := by
    intro k
    refine Nat.le_trans (ownX_len _ _) ?_
    rw [List.length_take]; omega
  refine goS_rule (fun t : F15.S3 => ∃ (k : Nat) (b : Bool), t = ⟨o, 0, (ownX (l.take k) o).length, dl nn (l.map Sp.enc), (l.length : Int), (k : Int), b, (ownX (l.take k) o).map (D.int .i64)⟩ ∧ k ≤ l.length) (fun t => l.length - t.i6.toNat) (fun R => ∃ b, R = K (.e0 0 (ownX l o).length b ((ownX l o).map (D.int .i64)))) ?_ _ _ ⟨0, false, by simp [ownX], by omega⟩ (by simp [FUEL]; omega)
  rintro _ rec ⟨k, b, rfl, hk⟩ hrec
  simp only [F15.st3]
  by_cases h1 : k < l.length
  · have hx : ix (dl nn (l.map Sp.enc)).elems (k : Int).toNat = l[k].enc := ix_map h1
    have e1 : ltI (k : Int) (l.length : Int) = true := by simp; omega
    have e3 : inb (k : Int) (dl nn (l.map Sp.enc)).elems.length = true := by simp; omega
    have hadd : ad .i64 (k : Int) 1 = ((k + 1 : Nat) : Int) := by rw [ad64 (by omega) (by omega)]; rfl
    have a0 : ((l[k].enc.at 2).at 0).i = l[k].kind := rfl
    have a1 : ((l[k].enc.at 2).at 2).i = l[k].owner := rfl
    have a2 : l[k].enc.at 0 = di l[k].block := rfl
    have step : ownX (l.take (k + 1)) o = ownX (l.take k) o ++ (if l[k].kind = 0 ∧ l[k].owner = o then [l[k].block] else []) := by
      unfold ownX
      rw [List.take_succ_eq_append_getElem h1, List.filter_append, List.map_append]
      congr 1
      by_cases g1 : l[k].kind = 0 <;> by_cases g2 : l[k].owner = o <;> simp [g1, g2]
    rw [e1, e3, hx, hadd, a0, a1, a2]
    simp only [cond_true]
    have skip : ¬ (l[k].kind = 0 ∧ l[k].owner = o) → ∃ b', rec ⟨o, 0, (ownX (l.take k) o).length, dl nn (l.map Sp.enc), (l.length : Int), ((k + 1 : Nat) : Int), b, (ownX (l.take k) o).map (D.int .i64)⟩ = K (.e0 0 (ownX l o).length b' ((ownX l o).map (D.int .i64))) := by
      intro hn
      refine hrec _ ⟨k + 1, b, ?_, by omega⟩ (by simp; omega)
      rw [step]; simp [hn]
    by_cases g1 : l[k].kind = 0
    · rw [show eqI l[k].kind 0 = true by simp [g1]]
      simp only [cond_true]
      by_cases g2 : l[k].owner = o
      · rw [show eqI l[k].owner o = true by simp [g2]]
        simp only [cond_true]
        have hm : mx ((ownX (l.take k) o).length + 1) = true := by have := hlen k; simp; omega
        rw [hm]
        simp only [cond_true]
        refine hrec _ ⟨k + 1, b || true, ?_, by omega⟩ (by simp; omega)
        rw [step, if_pos ⟨g1, g2⟩, List.drop_zero, show (List.map (D.int .i64) (ownX (l.take k) o)).take (ownX (l.take k) o).length = List.map (D.int .i64) (ownX (l.take k) o) from List.take_of_length_le (by simp)]
        simp [ap]
      · rw [show eqI l[k].owner o = false by simp [g2]]
        exact skip (by simp [g2])
    · rw [show eqI l[k].kind 0 = false by simp [g1]]
      exact skip (by simp [g1])
  · have e1 : ltI (k : Int) (l.length : Int) = false := by simp; omega
    rw [e1]
    have hkl : k = l.length := by omega
    subst hkl
    rw [take_all]
    exact ⟨b, rfl⟩
theorem owned_ok (nn : Bool) (l : List Sp) (o : Int) (hl : l.length ≤ 1048576) : ∃ b, F15.s FUEL (dl nn (l.map Sp.enc)) o = some (dl b ((blocksOf (ownX l o)).map (D.int .i64))) := by
  unfold F15.s
  have hl2 := ownX_len l o
  obtain ⟨b, e⟩ := F15_head nn l o hl _
  exact ⟨b, e.trans (F15_tail b (ownX l o) (by omega))⟩
structure Fd where
  (root : Rt) (seq : Int) (pn : Bool) (parts : List Sp) (high : Int)
def Fd.enc (f : Fd) : D := da [f.root.enc, di f.seq, dl f.pn (f.parts.map Sp.enc), di f.high]
theorem ddg_mem (x : Int) : ∀ (xs : List Int) (p : Int), (x = p ∨ x ∈ ddg p xs) ↔ (x = p ∨ x ∈ xs)
  | [], p => Iff.rfl
  | y :: ys, p => by
    unfold ddg
    by_cases h : y = p
    · rw [if_pos h, ddg_mem x ys p]; subst h; simp
    · rw [if_neg h, List.mem_cons, ddg_mem x ys y, List.mem_cons]
theorem dd_mem (x : Int) (xs : List Int) : x ∈ dd xs ↔ x ∈ xs := by
  cases xs with
  | nil => exact Iff.rfl
  | cons y ys => simp only [dd, List.mem_cons]; exact ddg_mem x ys y
theorem ddg_sorted : ∀ (xs : List Int) (p : Int), (p :: xs).Pairwise (· ≤ ·) → (p :: ddg p xs).Pairwise (· < ·)
  | [], p, _ => by simp [ddg]
  | y :: ys, p, h => by
    unfold ddg
    rw [List.pairwise_cons] at h
    by_cases hy : y = p
    · rw [if_pos hy]
      refine ddg_sorted ys p ?_
      rw [List.pairwise_cons] at h ⊢
      exact ⟨fun a ha => h.1 a (List.mem_cons_of_mem _ ha), h.2.2⟩
    · rw [if_neg hy]
      have ih := ddg_sorted ys y h.2
      refine List.pairwise_cons.2 ⟨?_, ih⟩
      intro a ha
      have hp : p < y := by have := h.1 y (by simp); omega
      rcases List.mem_cons.1 ha with rfl | ha'
      · exact hp
      · have := (List.pairwise_cons.1 ih).1 a ha'; omega
theorem dd_sorted {xs : List Int} (h : xs.Pairwise (· ≤ ·)) : (dd xs).Pairwise (· < ·) := by
  cases xs with
  | nil => exact .nil
  | cons y ys => exact ddg_sorted ys y h
theorem blocks_sorted (xs : List Int) : (blocksOf xs).Pairwise (· < ·) := dd_sorted (isort_sorted _)
theorem blocks_mem (x : Int) (xs : List Int) : x ∈ blocksOf xs ↔ x ∈ xs ∧ 0 ≤ x ∧ x < 64 := by
  rw [blocksOf, dd_mem, (isort_perm _).mem_iff, List.mem_filter]
  simp [odd]
theorem sorted_ext {a b : List Int} (ha : a.Pairwise (· < ·)) (hb : b.Pairwise (· < ·)) (h : ∀ x, x ∈ a ↔ x ∈ b) : a = b := by
  have nd : ∀ {l : List Int}, l.Pairwise (· < ·) → l.Nodup := fun hl => hl.imp (fun h => by omega)
  exact List.Perm.eq_of_pairwise (le := (· < ·)) (by intro a b _ _ h1 h2; omega) ha hb ((List.perm_ext_iff_of_nodup (nd ha) (nd hb)).2 h)
def bitsOf (B : List Bool) (k : Nat) : List Int := ((List.range k).filter fun i => B.getD i false).map Int.ofNat
theorem numbers_ok (B : List Bool) (hB : B.length = 64) : ∃ b, F26.s FUEL (da (B.map D.bool)) = some (dl b ((bitsOf B 64).map (D.int .i64))) := by
  unfold F26.s
  refine goS_rule (fun t : F26.S3 => ∃ (k : Nat) (b : Bool), t = ⟨0, (bitsOf B k).length, (k : Int), da (B.map D.bool), b, (bitsOf B k).map (D.int .i64)⟩ ∧ k ≤ 64) (fun t => 64 - t.i3.toNat) (fun R => ∃ b, R = some (dl b ((bitsOf B 64).map (D.int .i64)))) ?_ _ _ ⟨0, false, by simp [bitsOf], by omega⟩ (by simp [FUEL])
  rintro _ rec ⟨k, b, rfl, hk⟩ hrec
  simp only [F26.st3]
  have hlen : (bitsOf B k).length ≤ k := by
    unfold bitsOf
    rw [List.length_map]
    exact Nat.le_trans (List.length_filter_le _ _) (by simp)
  by_cases h1 : k < 64
  · have hadd : ad .i64 (k : Int) 1 = ((k + 1 : Nat) : Int) := by rw [ad64 (by omega) (by omega)]; rfl
    have hg : (da (B.map D.bool)).at (k : Int).toNat = db (B.getD k false) := by
      rw [at_agg, Int.toNat_natCast, List.getD_eq_getElem?_getD, List.getD_eq_getElem?_getD, List.getElem?_map, List.getElem?_eq_getElem (by omega)]; rfl
    have e1 : ltI (k : Int) 64 = true := by simp; omega
    have e2 : inb (k : Int) 64 = true := by simp [inb]; omega
    have hstep : bitsOf B (k + 1) = bitsOf B k ++ (if B.getD k false then [(k : Int)] else []) := by
      unfold bitsOf
      rw [List.range_succ, List.filter_append, List.map_append]
      congr 1
      cases hb : B.getD k false <;> simp only [List.filter_cons, List.filter_nil, hb] <;> rfl
    rw [e1, e2, hg, hadd]
    simp only [cond_true, b_bool]
    cases hb : B.getD k false
    · simp only [cond_false]
      exact hrec _ ⟨k + 1, b, by rw [hstep, hb]; simp, by omega⟩ (by simp; omega)
    · simp only [cond_true]
      have hm : mx ((bitsOf B k).length + 1) = true := by simp; omega
      rw [hm]
      simp only [cond_true]
      refine hrec _ ⟨k + 1, b || true, ?_, by omega⟩ (by simp; omega)
      rw [hstep, hb, List.drop_zero, show (List.map (D.int .i64) (bitsOf B k)).take (bitsOf B k).length = List.map (D.int .i64) (bitsOf B k) from List.take_of_length_le (by simp)]
      simp [ap]
  · have hkl : k = 64 := by omega
    subst hkl
    refine ⟨b, ?_⟩
    rw [show ltI ((64 : Nat) : Int) 64 = false from rfl]
    simp
theorem rep_getD (n i : Nat) : (List.replicate n false).getD i false = false := by
  rw [List.getD_eq_getElem?_getD, List.getElem?_replicate]; split <;> rfl
theorem bits_blocks {B : List Bool} {X : List Int} (hB : ∀ i, i < 64 → (B.getD i false = true ↔ (i : Int) ∈ X)) : bitsOf B 64 = blocksOf X := by
  refine sorted_ext ?_ (blocks_sorted X) ?_
  · unfold bitsOf
    rw [List.pairwise_map]
    exact (List.pairwise_lt_range.filter _).imp (by intro a b h; simpa using h)
  · intro x
    rw [blocks_mem]
    unfold bitsOf
    simp only [List.mem_map, List.mem_filter, List.mem_range]
    constructor
    · rintro ⟨n, ⟨h1, h2⟩, rfl⟩
      exact ⟨(hB n h1).1 h2, by show (0 : Int) ≤ (n : Int); omega, by show (n : Int) < 64; omega⟩
    · rintro ⟨h1, h2, h3⟩
      refine ⟨x.toNat, ⟨by omega, (hB _ (by omega)).2 ?_⟩, ?_⟩
      · rwa [show ((x.toNat : Nat) : Int) = x by omega]
      · show ((x.toNat : Nat) : Int) = x
        omega
theorem ref_owned (nn : Bool) (l : List Sp) (o : Int) (hl : l.length ≤ 1048576) : ∃ b, F16.s FUEL (dl nn (l.map Sp.enc)) o = some (dl b ((blocksOf (ownX l o)).map (D.int .i64))) := by
  unfold F16.s
  refine goS_rule (fun t : F16.S3 => ∃ (k : Nat) (B : List Bool), t = ⟨dl nn (l.map Sp.enc), o, (k : Int), da (B.map D.bool)⟩ ∧ k ≤ l.length ∧ B.length = 64 ∧ ∀ i, i < 64 → (B.getD i false = true ↔ (i : Int) ∈ ownX (l.take k) o)) (fun t => l.length - t.i3.toNat) (fun R => ∃ b, R = some (dl b ((blocksOf (ownX l o)).map (D.int .i64)))) ?_ _ _ ⟨0, List.replicate 64 false, rfl, by omega, by simp, by intro i hi; rw [rep_getD]; simp [ownX]⟩ (by simp [FUEL]; omega)
  rintro _ rec ⟨k, B, rfl, hk, hB, hi⟩ hrec
  simp only [F16.st3]
  by_cases h1 : k < l.length
  · have hx : ix (dl nn (l.map Sp.enc)).elems (k : Int).toNat = l[k].enc := ix_map h1
    have e1 : ltI (k : Int) (nI (dl nn (l.map Sp.enc)).elems.length) = true := by simp; omega
    have e3 : inb (k : Int) (dl nn (l.map Sp.enc)).elems.length = true := by simp; omega
    have hadd : ad .i64 (k : Int) 1 = ((k + 1 : Nat) : Int) := by rw [ad64 (by omega) (by omega)]; rfl
    have a0 : ((l[k].enc.at 2).at 0).i = l[k].kind := rfl
    have a1 : ((l[k].enc.at 2).at 2).i = l[k].owner := rfl
    have a2 : (l[k].enc.at 0).i = l[k].block := rfl
    have step : ownX (l.take (k + 1)) o = ownX (l.take k) o ++ (if l[k].kind = 0 ∧ l[k].owner = o then [l[k].block] else []) := by
      unfold ownX
      rw [List.take_succ_eq_append_getElem h1, List.filter_append, List.map_append]
      congr 1
      by_cases g1 : l[k].kind = 0 <;> by_cases g2 : l[k].owner = o <;> simp [g1, g2]
    rw [e1, e3, hx, hadd, a0, a1, a2]
    simp only [cond_true]
    have skip : ¬ (l[k].kind = 0 ∧ l[k].owner = o ∧ 0 ≤ l[k].block ∧ l[k].block < 64) → ∃ b', rec ⟨dl nn (l.map Sp.enc), o, ((k + 1 : Nat) : Int), da (B.map D.bool)⟩ = some (dl b' ((blocksOf (ownX l o)).map (D.int .i64))) := by
      intro hn
      refine hrec _ ⟨k + 1, B, rfl, by omega, hB, ?_⟩ (by simp; omega)
      intro i hi'
      rw [hi i hi', step, List.mem_append]
      constructor
      · exact .inl
      · rintro (h | h)
        · exact h
        · by_cases g : l[k].kind = 0 ∧ l[k].owner = o
          · rw [if_pos g] at h
            simp at h
            exact absurd ⟨g.1, g.2, by omega, by omega⟩ hn
          · rw [if_neg g] at h
            simp at h
    by_cases g1 : l[k].kind = 0
    · rw [show eqI l[k].kind 0 = true by simp [g1]]
      simp only [cond_true]
      by_cases g2 : l[k].owner = o
      · rw [show eqI l[k].owner o = true by simp [g2]]
        simp only [cond_true]
        by_cases g3 : 0 ≤ l[k].block
        · rw [show geI l[k].block 0 = true by simp [g3]]
          simp only [cond_true]
          by_cases g4 : l[k].block < 64
          · rw [show ltI l[k].block 64 = true by simp [g4], show inb l[k].block 64 = true by simp [inb]; omega]
            simp only [cond_true]
            refine hrec _ ⟨k + 1, B.set l[k].block.toNat true, ?_, by omega, by simpa using hB, ?_⟩ (by simp; omega)
            · simp [List.map_set]
            · intro i hi'
              rw [step, if_pos ⟨g1, g2⟩, List.mem_append, ← hi i hi']
              simp only [List.getD_eq_getElem?_getD, List.getElem?_set, List.mem_singleton]
              by_cases g5 : l[k].block.toNat = i
              · rw [if_pos g5, if_pos (by omega)]
                simp; right; omega
              · rw [if_neg g5]
                constructor
                · exact .inl
                · rintro (h | h)
                  · exact h
                  · omega
          · rw [show ltI l[k].block 64 = false by simp; omega]
            exact skip (by omega)
        · rw [show geI l[k].block 0 = false by simp; omega]
          exact skip (by omega)
      · rw [show eqI l[k].owner o = false by simp [g2]]
        exact skip (by simp [g2])
    · rw [show eqI l[k].kind 0 = false by simp [g1]]
      exact skip (by simp [g1])
  · have e1 : ltI (k : Int) (nI (dl nn (l.map Sp.enc)).elems.length) = false := by simp; omega
    rw [e1]
    have hkl : k = l.length := by omega
    subst hkl
    rw [take_all] at hi
    simp only [cond_false]
    obtain ⟨b, e⟩ := numbers_ok B hB
    refine ⟨b, ?_⟩
    rw [e]
    simp [bd, bits_blocks hi]
theorem row_ok (b1 b2 : Bool) (X : List Int) (hX : X.length ≤ 1048576) : F14.s FUEL (dl b1 (X.map (D.int .i64))) (dl b2 (X.map (D.int .i64))) = some (db true) := by
  unfold F14.s
  refine cf (by simp) ?_
  refine goS_rule (fun t : F14.S4 => ∃ k : Nat, t = ⟨dl b1 (X.map (D.int .i64)), dl b2 (X.map (D.int .i64)), (k : Int)⟩ ∧ k ≤ X.length) (fun t => X.length - t.i3.toNat) (fun R => R = some (db true)) ?_ _ _ ⟨0, rfl, by omega⟩ (by simp [FUEL]; omega)
  rintro _ rec ⟨k, rfl, hk⟩ hrec
  simp only [F14.st4]
  by_cases h1 : k < X.length
  · have hadd : ad .i64 (k : Int) 1 = ((k + 1 : Nat) : Int) := by rw [ad64 (by omega) (by omega)]; rfl
    refine ct (by simp; omega) (ct (by simp; omega) (ct (by simp; omega) (cf (by simp) ?_)))
    rw [hadd]
    exact hrec _ ⟨k + 1, rfl, by omega⟩ (by simp; omega)
  · exact cf (by simp; omega) rfl
end Go.AM.SP
set_option linter.all false
set_option autoImplicit false
namespace Go.AM.SP
open Go Go.AM
theorem sp_of {d : D} (h : D.has ty d (.struct [3, 3, 43])) (hw : D.wf d) : ∃ s : Sp, d = s.enc ∧ s.ok := by
  obtain ⟨ds, rfl, hh⟩ := hass_struct h
  clear h
  rw [show [3, 3, 43].map ty = [.int .i64, .int .i64, .struct [41, 3, 3, 3, 9]] from rfl] at hh
  obtain ⟨d0, _, rfl, h0, hh⟩ := hassC hh
  obtain ⟨d1, _, rfl, h1, hh⟩ := hassC hh
  obtain ⟨d2, _, rfl, h2, hh⟩ := hassC hh
  obtain rfl := hass0 hh
  obtain ⟨x0, rfl⟩ := has_int h0
  obtain ⟨x1, rfl⟩ := has_int h1
  obtain ⟨ds, rfl, hh2⟩ := hass_struct h2
  clear hh h2
  rename_i hh
  have hh := hh2
  rw [show [41, 3, 3, 3, 9].map ty = [.int .i64, .int .i64, .int .i64, .int .i64, .str] from rfl] at hh
  obtain ⟨e0, _, rfl, g0, hh⟩ := hassC hh
  obtain ⟨e1, _, rfl, g1, hh⟩ := hassC hh
  obtain ⟨e2, _, rfl, g2, hh⟩ := hassC hh
  obtain ⟨e3, _, rfl, g3, hh⟩ := hassC hh
  obtain ⟨e4, _, rfl, g4, hh⟩ := hassC hh
  obtain rfl := hass0 hh
  obtain ⟨y0, rfl⟩ := has_int g0
  obtain ⟨y1, rfl⟩ := has_int g1
  obtain ⟨y2, rfl⟩ := has_int g2
  obtain ⟨y3, rfl⟩ := has_int g3
  obtain ⟨y4, rfl⟩ := has_str g4
  rw [D.wf] at hw
  simp only [D.wfs] at hw
  obtain ⟨w0, w1, w2, _⟩ := hw
  rw [D.wf] at w2
  simp only [D.wfs] at w2
  exact ⟨⟨x0, x1, y0, y1, y2, y3, y4⟩, rfl, wf_i64 w0, wf_i64 w1, wf_i64 w2.1, wf_i64 w2.2.1, wf_i64 w2.2.2.1, wf_i64 w2.2.2.2.1⟩
theorem ey_of {d : D} (h : D.has ty d (.struct [3, 3, 3, 3])) (hw : D.wf d) : ∃ s : Ey, d = s.enc ∧ s.ok := by
  obtain ⟨ds, rfl, hh⟩ := hass_struct h
  clear h
  rw [show [3, 3, 3, 3].map ty = [.int .i64, .int .i64, .int .i64, .int .i64] from rfl] at hh
  obtain ⟨d0, _, rfl, h0, hh⟩ := hassC hh
  obtain ⟨d1, _, rfl, h1, hh⟩ := hassC hh
  obtain ⟨d2, _, rfl, h2, hh⟩ := hassC hh
  obtain ⟨d3, _, rfl, h3, hh⟩ := hassC hh
  obtain rfl := hass0 hh
  obtain ⟨x0, rfl⟩ := has_int h0
  obtain ⟨x1, rfl⟩ := has_int h1
  obtain ⟨x2, rfl⟩ := has_int h2
  obtain ⟨x3, rfl⟩ := has_int h3
  rw [D.wf] at hw
  simp only [D.wfs] at hw
  exact ⟨⟨x0, x1, x2, x3⟩, rfl, wf_i64 hw.1, wf_i64 hw.2.1, wf_i64 hw.2.2.1, wf_i64 hw.2.2.2.1⟩
theorem int_of {d : D} (h : D.has ty d (.int .i64)) (hw : D.wf d) : ∃ x : Int, d = di x ∧ i64ok x := by
  obtain ⟨x, rfl⟩ := has_int h
  exact ⟨x, rfl, wf_i64 hw⟩
theorem sps_of {d : D} (h : D.has ty d (.slice 45)) (hw : D.wf d) : ∃ (nn : Bool) (l : List Sp), d = dl nn (l.map Sp.enc) ∧ ∀ s ∈ l, s.ok := by
  obtain ⟨nn, ds, rfl, hh, _⟩ := hass_slice h
  rw [D.wf] at hw
  obtain ⟨l, rfl, _, hl⟩ := hass_rep (f := Sp.enc) (Q := Sp.ok) (fun d h hw => sp_of h hw) (n := ds.length) (κ := .struct [3, 3, 43]) hh hw.2
  exact ⟨nn, l, rfl, hl⟩
structure Rt.ok (r : Rt) : Prop where
  map : ∀ e ∈ r.map, e.ok
  gone : ∀ x ∈ r.gone, i64ok x
  mn : r.mn = false → r.map = []
  gn : r.gn = false → r.gone = []
theorem rt_of {d : D} (h : D.has ty d (.struct [23, 24])) (hw : D.wf d) : ∃ r : Rt, d = r.enc ∧ r.ok := by
  obtain ⟨ds, rfl, hh⟩ := hass_struct h
  clear h
  rw [show [23, 24].map ty = [.slice 58, .slice 3] from rfl] at hh
  obtain ⟨d0, _, rfl, h0, hh⟩ := hassC hh
  obtain ⟨d1, _, rfl, h1, hh⟩ := hassC hh
  obtain rfl := hass0 hh
  obtain ⟨mn, ms, rfl, g0, n0⟩ := hass_slice h0
  obtain ⟨gn, gs, rfl, g1, n1⟩ := hass_slice h1
  rw [D.wf] at hw
  simp only [D.wfs] at hw
  obtain ⟨w0, w1, _⟩ := hw
  rw [D.wf] at w0 w1
  obtain ⟨m, rfl, _, hm⟩ := hass_rep (f := Ey.enc) (Q := Ey.ok) (fun d h hw => ey_of h hw) (n := ms.length) (κ := .struct [3, 3, 3, 3]) g0 w0.2
  obtain ⟨g, rfl, _, hg⟩ := hass_rep (f := D.int .i64) (Q := i64ok) (fun d h hw => int_of h hw) (n := gs.length) (κ := .int .i64) g1 w1.2
  exact ⟨⟨mn, m, gn, g⟩, rfl, hm, hg, fun h => by simpa using n0 h, fun h => by simpa using n1 h⟩
theorem ddg_len : ∀ (xs : List Int) (p : Int), (ddg p xs).length ≤ xs.length
  | [], _ => by simp [ddg]
  | y :: ys, p => by
    unfold ddg
    have := ddg_len ys p
    have := ddg_len ys y
    split <;> simp <;> omega
theorem dd_len (xs : List Int) : (dd xs).length ≤ xs.length := by
  cases xs with
  | nil => simp [dd]
  | cons y ys => have := ddg_len ys y; simp [dd]; omega
theorem blocks_len (X : List Int) : (blocksOf X).length ≤ X.length := by
  unfold blocksOf
  have h1 := dd_len (isort (X.filter fun b => !odd b))
  rw [isort_len] at h1
  exact Nat.le_trans h1 (List.length_filter_le _ _)
theorem whole_dl (b : Bool) (l : List D) : dl (dl b l).nn (((dl b l).elems.drop 0).take (dl b l).elems.length) = dl b l := by
  simp
theorem holds_law (nn : Bool) (l : List Sp) (r : Rt) (o : Int) : F3.s FUEL (dl nn (l.map Sp.enc)) r.enc o = some (db true) := by
  unfold F3.s
  refine bdS works_eq (cf (by simp) ?_)
  obtain ⟨b, hb, hfew⟩ := few_ok nn l
  refine bdS hb ?_
  cases b
  · exact ct rfl rfl
  obtain ⟨hl, _⟩ := hfew rfl
  refine cf rfl ?_
  have h0 : (r.enc.at 0).elems = r.map.map Ey.enc := rfl
  have h1 : (r.enc.at 1).elems = r.gone.map (D.int .i64) := rfl
  rw [h0, h1]
  by_cases hm : 60 < r.map.length
  · exact ct (by simp; omega) rfl
  refine cf (by simp; omega) ?_
  by_cases hg : 60 < r.gone.length
  · exact ct (by simp; omega) rfl
  refine cf (by simp; omega) ?_
  obtain ⟨b3, e3⟩ := of_spots nn l (by omega)
  refine bdS e3 ?_
  obtain ⟨b4, e4⟩ := of_root r (by omega)
  refine bdS e4 ?_
  rw [whole_dl]
  refine bdS (ref_holds b3 l _ (by omega) (by show r.map.length ≤ _; omega)) (ct rfl ?_)
  refine bdS (scan_holds nn l r (by omega) (by omega)) ?_
  refine bdS (x := db true) ?_ (ct rfl ?_)
  · show (match D.eqv ty (15 + 1) (db (holdsB l r.map)) (db (holdsB l r.map)) .bool with | some z => some (D.bool z) | none => none) = _
    simp [D.eqv]
  obtain ⟨b8, e8⟩ := owned_ok nn l o (by omega)
  refine bdS e8 (bdS e3 ?_)
  rw [whole_dl]
  obtain ⟨b9, e9⟩ := ref_owned b3 l o (by omega)
  refine bdS e9 ?_
  rw [whole_dl]
  refine bdS (row_ok b8 b9 _ ?_) rfl
  have h2 := ownX_len l o
  have h3 := blocks_len (ownX l o)
  omega
theorem run3 (p0 p1 : D) (o : Int) : F3.c.run [p0, p1, di o] = F3.s FUEL p0 p1 o := by simp only [F3.c, i_int]
theorem pure3 : ∀ ds, D.hass ty ds [(.slice 45), (.struct [23, 24]), (.int .i64)] → D.wfs ds → F3.c.run ds = some (.bool true) := by
  intro ds h hw
  obtain ⟨d0, _, rfl, h0, h⟩ := hassC h
  obtain ⟨d1, _, rfl, h1, h⟩ := hassC h
  obtain ⟨d2, _, rfl, h2, h⟩ := hassC h
  obtain rfl := hass0 h
  simp only [D.wfs] at hw
  obtain ⟨nn, l, rfl, hl⟩ := sps_of h0 hw.1
  obtain ⟨r, rfl, hr⟩ := rt_of h1 hw.2.1
  obtain ⟨o, rfl, ho⟩ := int_of h2 hw.2.2.1
  rw [run3]
  exact holds_law nn l r o
end Go.AM.SP
