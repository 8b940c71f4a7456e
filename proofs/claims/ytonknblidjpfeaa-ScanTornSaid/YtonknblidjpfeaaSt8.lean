/- Part 8 of the proof: the abstract machine, what the functions compute, and plain laws over that. -/
import Derived.Test.YtonknblidjpfeaaSt7
import Derived.Shelf.Strings.Builder1
import Derived.Shelf.Sort.Plain
import Derived.Shelf.Slices.In.SortNone
import Derived.Test.YtonknblidjpfeaaProg
import Derived.KernelRfl
set_option linter.all false
set_option linter.unusedSimpArgs false
set_option linter.unusedVariables false
set_option linter.unusedSectionVars false
namespace Go.AM
open Go Go.RowKit
def cutCells (sz : Nat → Nat) (κ : K) (cs : List Value) : Option (Value × List Value) :=
  if κ.isAgg then (if ksz sz κ ≤ cs.length then some (.agg (cs.take (ksz sz κ)).toArray, cs.drop (ksz sz κ)) else none)
  else match cs with | v :: cs => (match v with | .agg _ => none | _ => some (v, cs)) | [] => none
mutual
def zrep (ty : Nat → K) (sz : Nat → Nat) : D → K → Value → Bool
  | .bool b, .bool, .bool b' => b == b'
  | .int k n, .int k', .int k'' n' => decide (k = k') && decide (k = k'') && n == n'
  | .str s, .str, .string s' => s.data.toList == s'.data.toList
  | .agg ds, κ, .agg cs => κ.isAgg && zreps ty sz ds (κ.kids ty) cs.toList
  | .slice false [], .slice _, .slice none 0 0 => true
  | .nilIface, .iface _, .nilIface => true
  | .nilFunc, .func, .nilFunc => true
  | .nilPtr, .ptr _, .pointer none => true
  | .nilMap, .map _ _, .map none => true
  | _, _, _ => false
def zreps (ty : Nat → K) (sz : Nat → Nat) : List D → List K → List Value → Bool
  | [], [], [] => true
  | d :: ds, κ :: κs, cs => match cutCells sz κ cs with
    | some (x, rest) => zrep ty sz d κ x && zreps ty sz ds κs rest
    | none => false
  | _, _, _ => false
end
section
variable {ty : Nat → K} {sz : Nat → Nat}
mutual
theorem zrep_ok {M : Mem} : ∀ (d : D) (κ : K) (v : Value), zrep ty sz d κ v = true → Rep ty M d κ v
  | .bool b, κ, v, h => by
    cases κ <;> cases v <;> simp [zrep] at h
    subst h; simp [Rep]
  | .int k n, κ, v, h => by
    cases κ <;> cases v <;> simp [zrep] at h
    obtain ⟨⟨rfl, rfl⟩, rfl⟩ := h; simp [Rep]
  | .str s, κ, v, h => by
    cases κ <;> cases v <;> simp [zrep] at h
    rename_i s'
    have : s = s' := by cases s; cases s'; congr
    subst this; simp [Rep]
  | .agg ds, κ, v, h => by
    cases v <;> simp [zrep] at h
    rename_i cs
    simp only [Rep]
    exact ⟨h.1, cs, rfl, zreps_ok ds _ _ h.2⟩
  | .slice nn ds, κ, v, h => by
    unfold zrep at h
    split at h <;> simp at *
    rename_i h1
    obtain ⟨rfl, rfl⟩ := h1
    simp only [Rep]
    exact ⟨_, none, 0, rfl, rfl, Nat.le_refl _, rfl, fun _ => rfl, .inl trivial⟩
  | .iface t x, κ, v, h => by cases κ <;> cases v <;> simp [zrep] at h
  | .nilIface, κ, v, h => by cases κ <;> cases v <;> simp [zrep] at h; simp [Rep]
  | .fn f, κ, v, h => by cases κ <;> cases v <;> simp [zrep] at h
  | .nilFunc, κ, v, h => by cases κ <;> cases v <;> simp [zrep] at h; simp [Rep]
  | .nilPtr, κ, v, h => by
    unfold zrep at h
    split at h <;> simp at *
    simp [Rep]
  | .nilMap, κ, v, h => by
    unfold zrep at h
    split at h <;> simp at *
    simp [Rep]
  | .tup ds, κ, v, h => by cases κ <;> cases v <;> simp [zrep] at h
theorem zreps_ok {M : Mem} : ∀ (ds : List D) (κs : List K) (cs : List Value), zreps ty sz ds κs cs = true → Reps ty M ds κs cs
  | [], κs, cs, h => by
    cases κs <;> cases cs <;> simp [zreps] at h
    simp [Reps]
  | d :: ds, κs, cs, h => by
    cases κs with
    | nil => simp [zreps] at h
    | cons κ κs =>
      simp only [zreps] at h
      split at h
      · rename_i x rest hc
        simp only [Bool.and_eq_true] at h
        simp only [Reps]
        refine ⟨κ, κs, x, rest, rfl, ?_, zrep_ok d κ x h.1, zreps_ok ds κs rest h.2⟩
        unfold cutCells at hc
        split at hc
        · split at hc
          · simp only [Option.some.injEq, Prod.mk.injEq] at hc
            obtain ⟨rfl, rfl⟩ := hc
            simp [cells_agg]
          · simp at hc
        · split at hc
          · rename_i v cs'
            split at hc
            · simp at hc
            · rename_i hna
              simp only [Option.some.injEq, Prod.mk.injEq] at hc
              obtain ⟨rfl, rfl⟩ := hc
              cases v <;> first | (exact absurd rfl (hna _)) | simp [Value.cells]
          · simp at hc
      · simp at h
end
end
def fieldsB (P : Program) (ty : Nat → K) (sz : Nat → Nat) (κ : K) : List Field → List Nat → Nat → Bool
  | [], [], _ => true
  | f :: fields, t :: fs, j => f.type == t && f.offset == kOff sz κ j && decide (0 < sz f.type) && f.name != "_" && (ty f.type).ok && fieldsB P ty sz κ fields fs (j + 1)
  | _, _, _ => false
def descB (P : Program) (ty : Nat → K) (t : Nat) (κ : K) : Bool :=
  match κ, P.underlying t with
  | .bool, some .bool => true
  | .int k, some (.int k') => decide (k = k')
  | .str, some .string => true
  | .struct fs, some (.struct fields) => fieldsB P ty P.cellsOf (.struct fs) fields.toList fs 0
  | .array n e, some (.array n' e') => n == n' && e == e' && decide (0 < P.cellsOf e) && (ty e).ok
  | .slice e, some (.slice e') => e == e' && (ty e).ok
  | .map a e, some (.map a' e') => a == a' && e == e' && (ty a).ok && (ty e).ok
  | .iface m, some (.interface ms) => ms.isEmpty == !m
  | .ptr e, some (.pointer e') => e == e'
  | .func, some (.func _ _ _) => true
  | _, _ => false
def tyB (P : Program) (ty : Nat → K) (t : Nat) : Bool :=
  match ty t with
  | .bad => true
  | κ => match P.info? t with
    | none => false
    | some i => i.size == ksz P.cellsOf κ && decide (i.bytes ≤ 4096) && decide (i.size ≤ 4096) && (match i.zero with | some z => zrep ty P.cellsOf (zero ty κ) κ z | none => false) &&
      (!K.cmp ty 20 κ || (i.comparable && !P.eqGuardType P.depth t && !P.stoodInHeld t)) && descB P ty t κ
theorem ok_ne {κ : K} (h : κ.ok = true) : κ ≠ .bad := by rintro rfl; simp [K.ok] at h
theorem fieldsB_ok {P : Program} {ty : Nat → K} {sz : Nat → Nat} {κ : K} : ∀ (fields : List Field) (fs : List Nat) (j : Nat), fieldsB P ty sz κ fields fs j = true →
    fields.map (·.type) = fs ∧ ∀ (i : Nat) (f : Field), fields[i]? = some f → f.offset = kOff sz κ (j + i) ∧ 0 < sz f.type ∧ f.name ≠ "_" ∧ ty f.type ≠ .bad
  | [], [], j, _ => ⟨rfl, by simp⟩
  | [], _ :: _, j, h => by simp [fieldsB] at h
  | _ :: _, [], j, h => by simp [fieldsB] at h
  | f :: fields, t :: fs, j, h => by
    simp only [fieldsB, Bool.and_eq_true, beq_iff_eq, decide_eq_true_eq, bne_iff_ne] at h
    obtain ⟨⟨⟨⟨⟨h1, h2⟩, h3⟩, h4⟩, h5⟩, h6⟩ := h
    obtain ⟨k1, k2⟩ := fieldsB_ok fields fs (j + 1) h6
    refine ⟨by simp [h1, k1], fun i f' hi => ?_⟩
    cases i with
    | zero => simp at hi; subst hi; exact ⟨h2, h3, h4, ok_ne h5⟩
    | succ i =>
      obtain ⟨a, b⟩ := k2 i f' (by simpa using hi)
      exact ⟨by rw [a]; congr 1; omega, b⟩
theorem tyB_ok {P : Program} {ty : Nat → K} {t : Nat} (h : tyB P ty t = true) (hb : ty t ≠ .bad) : ∃ i, TyFact P ty t i := by
  unfold tyB at h
  split at h
  · rename_i hk; exact absurd hk hb
  · split at h
    · simp at h
    · rename_i i hi
      simp only [Bool.and_eq_true, beq_iff_eq, decide_eq_true_eq, Bool.or_eq_true, Bool.not_eq_true'] at h
      obtain ⟨⟨⟨⟨⟨h1, h2⟩, h3⟩, h4⟩, h5⟩, h6⟩ := h
      refine ⟨i, hi, h1, h2, h3, ?_, ?_, ?_⟩
      · cases hz : i.zero with
        | none => rw [hz] at h4; simp at h4
        | some z => rw [hz] at h4; exact ⟨z, rfl, fun M => zrep_ok _ _ _ h4⟩
      · intro hc
        rcases h5 with h5 | h5
        · rw [hc] at h5; simp at h5
        · exact ⟨h5.1.1, h5.1.2, h5.2⟩
      · unfold descB at h6
        split at h6
        case h_11 => simp at h6
        all_goals (rename_i hk hu; rw [hk]; simp only [descOk])
        · exact hu
        · simp only [decide_eq_true_eq] at h6; subst h6; exact hu
        · exact hu
        · obtain ⟨k1, k2⟩ := fieldsB_ok _ _ _ h6
          exact ⟨_, hu, k1, fun j f hj => by have := k2 j f (by simpa using hj); simpa using this⟩
        · simp only [Bool.and_eq_true, beq_iff_eq, decide_eq_true_eq] at h6
          obtain ⟨⟨⟨rfl, rfl⟩, h7⟩, h8⟩ := h6
          exact ⟨hu, h7, ok_ne h8⟩
        · simp only [Bool.and_eq_true, beq_iff_eq] at h6
          obtain ⟨rfl, h8⟩ := h6
          exact ⟨hu, ok_ne h8⟩
        · simp only [Bool.and_eq_true, beq_iff_eq] at h6
          obtain ⟨⟨⟨rfl, rfl⟩, h7⟩, h8⟩ := h6
          exact ⟨hu, ok_ne h7, ok_ne h8⟩
        · exact ⟨_, hu, by simpa using h6⟩
        · simp only [beq_iff_eq] at h6; subst h6; exact hu
        · exact ⟨_, _, _, hu⟩
theorem tyOk_of {P : Program} {tys : List K} (h : (List.range tys.length).all (tyB P fun t => tys.getD t .bad) = true) : TyOk P fun t => tys.getD t .bad := by
  intro t ht
  refine tyB_ok ?_ ht
  have hlt : t < tys.length := by
    rcases Nat.lt_or_ge t tys.length with h | h
    · exact h
    · simp [List.getD_eq_getElem?_getD, List.getElem?_eq_none h] at ht
  exact List.all_eq_true.1 h t (List.mem_range.2 hlt)
end Go.AM
namespace Go.Proofs
open Go.Shelf
def Try.lays169_ren : Go.Shelf.Ren := ⟨fun | 169 => 75 | n => n, fun | 70 => 125 | 9 => 9 | 0 => 0 | 72 => 128 | 37 => 126 | 127 => 144 | 3 => 3 | 5 => 5 | n => n, fun | n => n⟩
theorem Try.lays169 : Go.Proofs.Lays.n169 Try.prog Try.lays169_ren := {
  mixed := by kernel_rfl
  f169 := Try.func75.trans (congrArg some (by kernel_rfl))
  t0 := Try.underlying0
  a0 := Try.isAgg0
  z0 := Try.sizeOf0
  v0 := Try.zeroValue0
  t3 := Try.underlying3
  a3 := Try.isAgg3
  z3 := Try.sizeOf3
  v3 := Try.zeroValue3
  t9 := Try.underlying9
  a9 := Try.isAgg9
  z9 := Try.sizeOf9
  v9 := Try.zeroValue9
  t37 := Try.underlying126
  a37 := Try.isAgg126
  z37 := Try.sizeOf126
  v37 := Try.zeroValue126
  t70 := Try.underlying125
  a70 := Try.isAgg125
  z70 := Try.sizeOf125
  v70 := Try.zeroValue125
  t72 := Try.underlying128
  a72 := Try.isAgg128
  z72 := Try.sizeOf128
  v72 := Try.zeroValue128
  t127 := Try.underlying144
  a127 := Try.isAgg144
  z127 := Try.sizeOf144
  v127 := Try.zeroValue144 }
theorem Try.Builder_Extra_169 : Builder.Extra Try.prog Try.lays169_ren := {
  sizeBuilder := by kernel_rfl
  liesBuilder := by kernel_rfl
  t5 := Try.underlying5
  a5 := Try.isAgg5
  z5 := Try.sizeOf5
  v5 := Try.zeroValue5
  infoByte := by kernel_rfl
  cellsByte := by kernel_rfl
  sizeByte := by kernel_rfl
  neB5 := by decide }
def Try.lays189_ren : Go.Shelf.Ren := ⟨fun | 189 => 27 | 125 => 40 | 257 => 39 | 128 => 65 | 129 => 66 | 294 => 56 | 295 => 57 | 296 => 58 | 297 => 59 | 298 => 60 | 299 => 61 | 216 => 62 | 300 => 63 | 301 => 64 | 328 => 80 | 329 => 81 | 330 => 82 | 331 => 83 | 332 => 84 | 215 => 77 | 343 => 88 | n => n, fun | 28 => 24 | 3 => 3 | 46 => 90 | 0 => 0 | 51 => 118 | 53 => 120 | 4 => 4 | 183 => 110 | 182 => 109 | 131 => 115 | 5 => 5 | 9 => 9 | 218 => 138 | 222 => 142 | 228 => 149 | 229 => 150 | n => n, fun | n => n⟩
theorem Try.lays189 : Go.Proofs.Lays.n189 Try.prog Try.lays189_ren := {
  mixed := by kernel_rfl
  f125 := Try.func40.trans (congrArg some (by kernel_rfl))
  f128 := Try.func65.trans (congrArg some (by kernel_rfl))
  f129 := Try.func66.trans (congrArg some (by kernel_rfl))
  f189 := Try.func27.trans (congrArg some (by kernel_rfl))
  f215 := Try.func77.trans (congrArg some (by kernel_rfl))
  f216 := Try.func62.trans (congrArg some (by kernel_rfl))
  f257 := Try.func39.trans (congrArg some (by kernel_rfl))
  f294 := Try.func56.trans (congrArg some (by kernel_rfl))
  f295 := Try.func57.trans (congrArg some (by kernel_rfl))
  f296 := Try.func58.trans (congrArg some (by kernel_rfl))
  f297 := Try.func59.trans (congrArg some (by kernel_rfl))
  f298 := Try.func60.trans (congrArg some (by kernel_rfl))
  f299 := Try.func61.trans (congrArg some (by kernel_rfl))
  f300 := Try.func63.trans (congrArg some (by kernel_rfl))
  f301 := Try.func64.trans (congrArg some (by kernel_rfl))
  f328 := Try.func80.trans (congrArg some (by kernel_rfl))
  f329 := Try.func81.trans (congrArg some (by kernel_rfl))
  f330 := Try.func82.trans (congrArg some (by kernel_rfl))
  f331 := Try.func83.trans (congrArg some (by kernel_rfl))
  f332 := Try.func84.trans (congrArg some (by kernel_rfl))
  f343 := Try.func88.trans (congrArg some (by kernel_rfl))
  t0 := Try.underlying0
  a0 := Try.isAgg0
  z0 := Try.sizeOf0
  v0 := Try.zeroValue0
  t3 := Try.underlying3
  a3 := Try.isAgg3
  z3 := Try.sizeOf3
  v3 := Try.zeroValue3
  t4 := Try.underlying4
  a4 := Try.isAgg4
  z4 := Try.sizeOf4
  v4 := Try.zeroValue4
  t5 := Try.underlying5
  a5 := Try.isAgg5
  z5 := Try.sizeOf5
  v5 := Try.zeroValue5
  t9 := Try.underlying9
  a9 := Try.isAgg9
  z9 := Try.sizeOf9
  v9 := Try.zeroValue9
  t28 := Try.underlying24
  a28 := Try.isAgg24
  z28 := Try.sizeOf24
  v28 := Try.zeroValue24
  t46 := Try.underlying90
  a46 := Try.isAgg90
  z46 := Try.sizeOf90
  v46 := Try.zeroValue90
  t51 := Try.underlying118
  a51 := Try.isAgg118
  z51 := Try.sizeOf118
  v51 := Try.zeroValue118
  t53 := Try.underlying120
  a53 := Try.isAgg120
  z53 := Try.sizeOf120
  v53 := Try.zeroValue120
  t131 := Try.underlying115
  a131 := Try.isAgg115
  z131 := Try.sizeOf115
  v131 := Try.zeroValue115
  t182 := Try.underlying109
  a182 := Try.isAgg109
  z182 := Try.sizeOf109
  v182 := Try.zeroValue109
  t183 := Try.underlying110
  a183 := Try.isAgg110
  z183 := Try.sizeOf110
  v183 := Try.zeroValue110
  t218 := Try.underlying138
  a218 := Try.isAgg138
  z218 := Try.sizeOf138
  v218 := Try.zeroValue138
  t222 := Try.underlying142
  a222 := Try.isAgg142
  z222 := Try.sizeOf142
  v222 := Try.zeroValue142
  t228 := Try.underlying149
  a228 := Try.isAgg149
  z228 := Try.sizeOf149
  v228 := Try.zeroValue149
  t229 := Try.underlying150
  a229 := Try.isAgg150
  z229 := Try.sizeOf150
  v229 := Try.zeroValue150 }
def Try.lays240_ren : Go.Shelf.Ren := ⟨fun | 240 => 85 | 276 => 89 | n => n, fun | 0 => 0 | 4 => 4 | 9 => 9 | 20 => 20 | 37 => 126 | 70 => 125 | 72 => 128 | 164 => 152 | n => n, fun | n => n⟩
theorem Try.lays240 : Go.Proofs.Lays.n240 Try.prog Try.lays240_ren := {
  mixed := by kernel_rfl
  f240 := Try.func85.trans (congrArg some (by kernel_rfl))
  f276 := Try.func89.trans (congrArg some (by kernel_rfl))
  t0 := Try.underlying0
  a0 := Try.isAgg0
  z0 := Try.sizeOf0
  v0 := Try.zeroValue0
  t4 := Try.underlying4
  a4 := Try.isAgg4
  z4 := Try.sizeOf4
  v4 := Try.zeroValue4
  t9 := Try.underlying9
  a9 := Try.isAgg9
  z9 := Try.sizeOf9
  v9 := Try.zeroValue9
  t20 := Try.underlying20
  a20 := Try.isAgg20
  z20 := Try.sizeOf20
  v20 := Try.zeroValue20
  t70 := Try.underlying125
  a70 := Try.isAgg125
  z70 := Try.sizeOf125
  v70 := Try.zeroValue125
  t72 := Try.underlying128
  a72 := Try.isAgg128
  z72 := Try.sizeOf128
  v72 := Try.zeroValue128
  t164 := Try.underlying152
  a164 := Try.isAgg152
  z164 := Try.sizeOf152
  v164 := Try.zeroValue152 }
theorem Try.X72_240 : Builder.X72 Try.prog Try.lays240_ren := { sizeBuilder := by kernel_rfl, liesBuilder := by kernel_rfl }
end Go.Proofs
namespace Go.AM.SP
open Go Go.AM Go.Proofs Go.RowKit
def tys : List K := [
.bad, .func, .int .i64, .int .i64, .bool, .int .u8, .int .u8, .struct [2, 3, 4, 6],
.struct [2, 3, 4, 6], .str, .str, .str, .int .u64, .bad, .bad, .ptr 155,
.ptr 158, .ptr 166, .struct [17], .struct [17], .iface false, .int .i32, .slice 45, .slice 58,
.slice 3, .struct [23, 24], .struct [23, 24], .func, .func, .func, .slice 65, .func,
.slice 61, .struct [32, 24], .struct [32, 24], .func, .func, .func, .func, .func,
.func, .int .i64, .struct [41, 3, 3, 3, 9], .struct [41, 3, 3, 3, 9], .struct [3, 3, 43], .struct [3, 3, 43], .func, .struct [26, 3, 22, 3],
.struct [26, 3, 22, 3], .bad, .func, .func, .func, .func, .func, .func,
.func, .struct [3, 3, 3, 3], .struct [3, 3, 3, 3], .bad, .func, .struct [3, 3, 3, 3], .struct [3, 3, 3, 3, 9], .struct [3, 3, 3, 3, 9],
.struct [3, 3, 63], .struct [3, 3, 63], .map 69 3, .array 2 3, .struct [67, 67], .struct [67, 67], .func, .func,
.func, .array 64 4, .func, .func, .slice 9, .func, .func, .func,
.func, .map 3 45, .bad, .bad, .func, .func, .func, .func,
.func, .func, .int .u64, .func, .func, .func, .func, .func,
.func, .func, .func, .bad, .func, .bad, .func, .func,
.bad, .func, .func, .func, .func, .int .i64, .bad, .func,
.func, .func, .func, .bad, .func, .func, .int .u32, .func,
.int .u64, .func, .func, .func, .func, .ptr 128, .slice 5, .struct [125, 126],
.struct [125, 126], .iface true, .iface true, .bad, .func, .func, .func, .func,
.bad, .func, .int .u64, .func, .func, .func, .ptr 3, .func,
.ptr 5, .struct [3, 9, 4], .struct [3, 9, 4], .func, .func, .ptr 138, .bad, .func,
.bad, .func, .struct [17, 17, 17, 9], .struct [17, 17, 17, 9], .array 0 16, .bad, .bad, .func,
.int .u8, .int .u8, .func, .int .i32, .int .i32, .struct [12, 12, 118, 160, 5, 5, 161, 162, 144, 163, 164], .struct [12, 12, 118, 160, 5, 5, 161, 162, 144, 163, 164]]
def ty (t : Nat) : K := tys.getD t .bad
theorem tyOk : TyOk Try.prog ty := tyOk_of (by kernel_rfl)
theorem mixed : Try.prog.follows .mixedOrders = true := by kernel_rfl
def plainNames (l : List Func) : Bool := l.all fun f => !(f.name == "runtime.NumGoroutine")
theorem names : plainNames Try.prog.funcs.toList = true := by kernel_rfl
def plainRounds (l : List Func) : Bool := l.all roundsOk
theorem rounds_ok : plainRounds Try.prog.funcs.toList = true := by kernel_rfl
def look {A : Type} (l : List (Nat × A)) (f : Nat) : Option A := match l.find? fun e => e.1 == f with | some e => some e.2 | none => none
def look2 (l : List (Nat × Nat × Hint)) (f i : Nat) : Hint := match l.find? fun e => e.1 == f && e.2.1 == i with | some e => e.2.2 | none => {}
def prims : List (Nat × (List D → Option D)) := []
noncomputable def env (cons : List (Nat × Con)) (exts : List (Nat × Ext)) (hints : List (Nat × Nat × Hint)) (M : Nat) : Env :=
  { ty := ty, fn := fun f => Try.prog.funcs[f]?, con := look cons, hint := look2 hints, fuel := M + 1, ext := look exts, prim := look prims }
def I (w : World) : Prop := True
def gl : Nat := 0
theorem hgl (w : World) (_ : I w) : gl ≤ w.heap.size := Nat.zero_le _
theorem hk (w w' : World) (_ : Below gl w w') (h : I w) : I w' := h
def ConOk (e : Nat × Con) : Prop := ∀ fn, Try.prog.funcs[e.1]? = some fn → Contract Try.prog ty I e.1 fn e.2
def XOk (e : Nat × Ext) : Prop := ExtOk Try.prog ty I gl e.1 e.2
theorem allNil {B : Type} {Q : B → Prop} : ∀ x ∈ ([] : List B), Q x := fun _ h => absurd h List.not_mem_nil
theorem allCons {B : Type} {Q : B → Prop} {e : B} {l : List B} (h : Q e) (hl : ∀ x ∈ l, Q x) : ∀ x ∈ e :: l, Q x := by
  intro x hx
  rcases List.mem_cons.1 hx with rfl | hx
  · exact h
  · exact hl x hx
theorem prims_ok : ∀ e ∈ prims, PrimOk Try.prog ty e.1 e.2 := allNil
def voidC : Con := { run := fun _ => none }
theorem void_ok (n : Nat) : ConOk (n, voidC) := fun fn _ X w ds xs r _ _ _ h => by simp [voidC] at h
theorem envOk {cons : List (Nat × Con)} {exts : List (Nat × Ext)} {hints : List (Nat × Nat × Hint)} {M : Nat} (hc : ∀ e ∈ cons, ConOk e) (hx : ∀ e ∈ exts, XOk e) : EnvOk Try.prog (env cons exts hints M) I gl := by
  refine ⟨tyOk, fun f fn hf => ⟨hf, ?_⟩, fun f c fn hl hf => ?_, hk, mixed, fun f x hl => ?_, fun f fn hf => List.all_eq_true.1 rounds_ok fn (by have hf' : Try.prog.funcs[f]? = some fn := hf; rw [← Array.getElem?_toList] at hf'; exact List.mem_of_getElem? hf'), fun f x hl => ?_⟩
  · have h := List.all_eq_true.1 names fn (by have hf' : Try.prog.funcs[f]? = some fn := hf; rw [← Array.getElem?_toList] at hf'; exact List.mem_of_getElem? hf')
    simpa using h
  · unfold env look at hl
    simp only at hl
    split at hl
    · rename_i e he
      simp only [Option.some.injEq] at hl
      subst hl
      have h1 : e.1 = f := by simpa using List.find?_some he
      subst h1
      exact hc e (List.mem_of_find?_eq_some he) fn hf
    · simp at hl
  · unfold env look at hl
    simp only at hl
    split at hl
    · rename_i e he
      simp only [Option.some.injEq] at hl
      subst hl
      have h1 : e.1 = f := by simpa using List.find?_some he
      subst h1
      exact hx e (List.mem_of_find?_eq_some he)
    · simp at hl
  · unfold env look at hl
    simp only at hl
    split at hl
    · rename_i e he
      simp only [Option.some.injEq] at hl
      subst hl
      have h1 : e.1 = f := by simpa using List.find?_some he
      subst h1
      exact prims_ok e (List.mem_of_find?_eq_some he)
    · simp at hl
theorem mkC {f dp : Nat} (fn : Func) (κs : List K) (ts : List Nat) {run : List D → Option D} {p : Bool} {cons : List (Nat × Con)} {exts : List (Nat × Ext)} {hints : List (Nat × Nat × Hint)} {M : Nat} {T : Tbl}
    (hf : Try.prog.funcs[f]? = some fn) (hs : fn.params.toList.map ty = κs) (hr : fn.resultTypes.toList = ts) (hp : (!p || ts.all fun t => K.flat ty 20 (ty t)) = true) (hc : ∀ e ∈ cons, ConOk e) (hx : ∀ e ∈ exts, XOk e) (hT : AllOk (env cons exts hints M) T)
    (h : ∀ a : Args κs, callS (env cons exts hints M) T dp (.fn f) (List.zipWith V.d κs (Args.ds κs a)) [] (fun v H => finish ty ts v H) = run (Args.ds κs a)) : ConOk (f, { run := run, plain := p }) := by
  intro fn' hfn
  obtain rfl : fn = fn' := Option.some.inj (hf.symm.trans hfn)
  exact okC hgl hs hr hp (envOk hc hx) rfl hT h
theorem mkF {f dp : Nat} (fn : Func) (κs : List K) (ts : List Nat) {run : List D → Option D} {cons : List (Nat × Con)} {exts : List (Nat × Ext)} {hints : List (Nat × Nat × Hint)} {M : Nat} {T : Tbl}
    (hf : Try.prog.funcs[f]? = some fn) (hs : fn.params.toList.map ty = κs) (hr : fn.resultTypes.toList = ts) (hc : ∀ e ∈ cons, ConOk e) (hx : ∀ e ∈ exts, XOk e) (hT : AllOk (env cons exts hints M) T)
    (h : ∀ a : Args κs, callS (env cons exts hints M) T dp (.fn f) (List.zipWith V.d κs (Args.ds κs a)) [] (fun v H => finishFresh ty ts v H) = run (Args.ds κs a)) : ConOk (f, { run := run, fresh := true }) := by
  intro fn' hfn
  obtain rfl : fn = fn' := Option.some.inj (hf.symm.trans hfn)
  exact okF hgl hs hr (envOk hc hx) rfl hT h
theorem sort_ok : XOk (27, sortX 3) := sortX_ok (ρ := Try.lays189_ren) tyOk Try.lays189 (by kernel_rfl)
theorem bldLies (r : Nat) (h : (List.range 167).all (fun t => !(decide (ty t = .struct [125, 126])) || liesAt Try.prog Try.prog.depth t (2 / Try.prog.cellsOf t) 0 r 1) = true) : ∀ t, ty t = .struct [125, 126] → liesAt Try.prog Try.prog.depth t (2 / Try.prog.cellsOf t) 0 r 1 = true := by
  intro t ht
  have hl : t < 167 := by
    rcases Nat.lt_or_ge t 167 with h | h
    · exact h
    · have h0 : ty t = .bad := by
        unfold ty
        rw [List.getD_eq_getElem?_getD, List.getElem?_eq_none (by rw [show tys.length = 167 by kernel_rfl]; exact h)]; rfl
      rw [h0] at ht; simp at ht
  have := List.all_eq_true.1 h t (List.mem_range.2 hl)
  simpa [ht] using this
theorem bldTy (ρ : Go.Shelf.Ren) (h : ρ.t 72 = 128) : BldTy Try.prog ty ρ (.struct [125, 126]) 128 5 := ⟨by kernel_rfl, rfl, by kernel_rfl, by kernel_rfl, by rw [h]; exact bldLies 128 (by kernel_rfl)⟩
theorem copyCheck_ok : XOk (85, copyCheckX (.struct [125, 126]) 5) := copyCheckX_ok (ρ := Try.lays240_ren) tyOk Try.lays240 Try.X72_240 (bldTy _ rfl)
theorem string_ok : XOk (75, stringX (.struct [125, 126])) := stringX_ok (ρ := Try.lays169_ren) tyOk Try.lays169 Try.Builder_Extra_169 (bldTy _ rfl)
end Go.AM.SP
