/- Part 6 of the proof: the abstract machine, what the functions compute, and plain laws over that. -/
import Derived.Test.YtonknblidjpfeaaDoorRp5
import Derived.Shelf.Unicode.DecodeAny
import Derived.Shelf.Spec.SlicesInsert
import Derived.Shelf.Spec.SlicesInsertGrow
import Derived.Test.YtonknblidjpfeaaDoorProg
import Derived.KernelRfl
set_option linter.all false
set_option linter.unusedSimpArgs false
set_option linter.unusedVariables false
set_option linter.unusedSectionVars false
namespace Go.Proofs
open Go.Shelf
def Tryd.lays197_ren : Go.Shelf.Ren := ⟨fun | 197 => 115 | 260 => 121 | n => n, fun | 9 => 9 | 21 => 21 | 3 => 3 | 4 => 4 | 5 => 5 | 105 => 162 | 119 => 179 | 0 => 0 | 46 => 172 | 139 => 182 | 138 => 181 | n => n, fun | 3 => 0 | 4 => 1 | n => n⟩
theorem Tryd.lays197 : Go.Proofs.Lays.n197 Tryd.prog Tryd.lays197_ren := {
  mixed := by kernel_rfl
  f197 := Tryd.func115.trans (congrArg some (by kernel_rfl))
  f260 := Tryd.func121.trans (congrArg some (by kernel_rfl))
  t0 := Tryd.underlying0
  a0 := Tryd.isAgg0
  z0 := Tryd.sizeOf0
  v0 := Tryd.zeroValue0
  t3 := Tryd.underlying3
  a3 := Tryd.isAgg3
  z3 := Tryd.sizeOf3
  v3 := Tryd.zeroValue3
  t4 := Tryd.underlying4
  a4 := Tryd.isAgg4
  z4 := Tryd.sizeOf4
  v4 := Tryd.zeroValue4
  t5 := Tryd.underlying5
  a5 := Tryd.isAgg5
  z5 := Tryd.sizeOf5
  v5 := Tryd.zeroValue5
  t9 := Tryd.underlying9
  a9 := Tryd.isAgg9
  z9 := Tryd.sizeOf9
  v9 := Tryd.zeroValue9
  t21 := Tryd.underlying21
  a21 := Tryd.isAgg21
  z21 := Tryd.sizeOf21
  v21 := Tryd.zeroValue21
  t46 := Tryd.underlying172
  a46 := Tryd.isAgg172
  z46 := Tryd.sizeOf172
  v46 := Tryd.zeroValue172
  t105 := Tryd.underlying162
  a105 := Tryd.isAgg162
  z105 := Tryd.sizeOf162
  v105 := Tryd.zeroValue162
  t119 := Tryd.underlying179
  a119 := Tryd.isAgg179
  z119 := Tryd.sizeOf179
  t138 := Tryd.underlying181
  a138 := Tryd.isAgg181
  z138 := Tryd.sizeOf181
  v138 := Tryd.zeroValue181
  t139 := Tryd.underlying182
  a139 := Tryd.isAgg182
  z139 := Tryd.sizeOf182
  v139 := Tryd.zeroValue182
  g3 := by kernel_rfl
  g4 := by kernel_rfl }
def Tryd.lays22_ren : Go.Shelf.Ren := ⟨fun | 22 => 87 | 29 => 104 | 30 => 105 | 36 => 110 | 17 => 116 | n => n, fun | 24 => 40 | 9 => 9 | 3 => 3 | 4 => 4 | 0 => 0 | n => n, fun | n => n⟩
theorem Tryd.lays22 : Go.Proofs.Lays2.n22 Tryd.prog Tryd.lays22_ren := {
  mixed := by kernel_rfl
  f17 := Tryd.func116.trans (congrArg some (by kernel_rfl))
  f22 := Tryd.func87.trans (congrArg some (by kernel_rfl))
  f29 := Tryd.func104.trans (congrArg some (by kernel_rfl))
  f30 := Tryd.func105.trans (congrArg some (by kernel_rfl))
  f36 := Tryd.func110.trans (congrArg some (by kernel_rfl))
  t0 := Tryd.underlying0
  a0 := Tryd.isAgg0
  z0 := Tryd.sizeOf0
  v0 := Tryd.zeroValue0
  t3 := Tryd.underlying3
  a3 := Tryd.isAgg3
  z3 := Tryd.sizeOf3
  v3 := Tryd.zeroValue3
  t4 := Tryd.underlying4
  a4 := Tryd.isAgg4
  z4 := Tryd.sizeOf4
  v4 := Tryd.zeroValue4
  t9 := Tryd.underlying9
  a9 := Tryd.isAgg9
  z9 := Tryd.sizeOf9
  v9 := Tryd.zeroValue9
  t24 := Tryd.underlying40
  a24 := Tryd.isAgg40
  z24 := Tryd.sizeOf40
  v24 := Tryd.zeroValue40
  i9 := by kernel_rfl }
theorem Tryd.lays197ok : Lays.n197 Tryd.prog Tryd.lays197_ren := Tryd.lays197
end Go.Proofs
namespace Go.AM.SD
open Go Go.AM Go.Proofs Go.RowKit
def tys : List K := [
.bad, .func, .int .i64, .int .i64, .bool, .int .u8, .int .u8, .struct [2, 3, 4, 6],
.struct [2, 3, 4, 6], .str, .str, .str, .int .u64, .bad, .bad, .ptr 189,
.ptr 192, .ptr 201, .struct [17], .struct [17], .iface false, .int .i32, .slice 38, .func,
.func, .slice 44, .struct [25, 3, 3], .struct [25, 3, 3], .int .i64, .bad, .func, .func,
.bad, .func, .int .i64, .array 32 5, .array 32 5, .struct [34, 3, 9, 3, 3, 36], .struct [34, 3, 9, 3, 3, 36], .func,
.slice 9, .struct [3, 9, 9, 4, 3, 40], .struct [3, 9, 9, 4, 3, 40], .struct [42, 3, 36], .struct [42, 3, 36], .slice 47, .struct [34, 9, 9, 3, 3, 3], .struct [34, 9, 9, 3, 3, 3],
.func, .slice 42, .struct [49, 3, 3], .struct [49, 3, 3], .slice 56, .bad, .func, .struct [28, 3, 9, 42, 40],
.struct [28, 3, 9, 42, 40], .bad, .func, .func, .func, .func, .func, .func,
.slice 3, .func, .func, .func, .func, .func, .func, .func,
.func, .func, .func, .func, .struct [75], .struct [75], .bad, .ptr 27,
.func, .func, .struct [81], .struct [81], .ptr 44, .func, .ptr 88, .struct [51, 47, 22],
.struct [51, 47, 22], .func, .array 12 89, .func, .func, .func, .func, .func,
.func, .func, .func, .func, .func, .func, .slice 106, .func,
.func, .iface true, .iface true, .str, .bad, .func, .func, .func,
.func, .bad, .func, .func, .func, .bad, .func, .func,
.int .i64, .array 32 5, .func, .func, .func, .func, .func, .func,
.str, .func, .func, .func, .func, .func, .func, .bad,
.func, .func, .func, .func, .bad, .func, .func, .func,
.func, .slice 21, .func, .func, .func, .bad, .map 34 20, .func,
.func, .func, .bad, .func, .func, .func, .func, .func,
.func, .func, .bad, .func, .func, .int .u32, .array 8 165, .array 64 165,
.bad, .func, .func, .func, .int .u64, .func, .int .u64, .slice 5,
.func, .func, .slice 165, .array 256 5, .struct [5, 5], .struct [5, 5], .array 16 181, .func,
.bad, .func, .func, .func, .struct [17, 17, 17, 9], .struct [17, 17, 17, 9], .array 0 16, .bad,
.bad, .func, .int .u8, .int .u8, .func, .ptr 5, .int .i32, .int .i32,
.struct [12, 12, 165, 194, 5, 5, 195, 196, 197, 198, 199], .struct [12, 12, 165, 194, 5, 5, 195, 196, 197, 198, 199], .bad]
def ty (t : Nat) : K := tys.getD t .bad
theorem tyOk : TyOk Tryd.prog ty := tyOk_of (by kernel_rfl)
theorem mixed : Tryd.prog.follows .mixedOrders = true := by kernel_rfl
def plainNames (l : List Func) : Bool := l.all fun f => !(f.name == "runtime.NumGoroutine")
theorem names : plainNames Tryd.prog.funcs.toList = true := by kernel_rfl
def look {A : Type} (l : List (Nat × A)) (f : Nat) : Option A := match l.find? fun e => e.1 == f with | some e => some e.2 | none => none
def look2 (l : List (Nat × Nat × Hint)) (f i : Nat) : Hint := match l.find? fun e => e.1 == f && e.2.1 == i with | some e => e.2.2 | none => {}
noncomputable def env (cons : List (Nat × Con)) (exts : List (Nat × Ext)) (hints : List (Nat × Nat × Hint)) (M : Nat) : Env :=
  { ty := ty, fn := fun f => Tryd.prog.funcs[f]?, con := look cons, hint := look2 hints, fuel := M + 1, ext := look exts }
def I (w : World) : Prop := Lib.Utf8Tabs 0 1 w
def gl : Nat := 2
theorem hgl (w : World) (h : I w) : gl ≤ w.heap.size := by
  have := (h.2 0 (by omega)).1
  unfold gl
  rcases Nat.lt_or_ge 1 w.heap.size with h1 | h1
  · omega
  · simp [World.cell?, Array.getElem?_eq_none h1] at this
theorem hk (w w' : World) (hb : Below gl w w') (h : I w) : I w' := by
  have e : ∀ b o, b < 2 → w'.cell? ⟨b, o, none⟩ = w.cell? ⟨b, o, none⟩ := fun b o hb2 => cell_congr (hb.block b hb2)
  exact ⟨fun c hc => by rw [e 0 _ (by omega)]; exact h.1 c hc, fun i hi => by rw [e 1 _ (by omega), e 1 _ (by omega)]; exact h.2 i hi⟩
def ConOk (e : Nat × Con) : Prop := ∀ fn, Tryd.prog.funcs[e.1]? = some fn → Contract Tryd.prog ty I e.1 fn e.2
def XOk (e : Nat × Ext) : Prop := ExtOk Tryd.prog ty I gl e.1 e.2
theorem allNil {B : Type} {Q : B → Prop} : ∀ x ∈ ([] : List B), Q x := fun _ h => absurd h List.not_mem_nil
theorem allCons {B : Type} {Q : B → Prop} {e : B} {l : List B} (h : Q e) (hl : ∀ x ∈ l, Q x) : ∀ x ∈ e :: l, Q x := by
  intro x hx
  rcases List.mem_cons.1 hx with rfl | hx
  · exact h
  · exact hl x hx
theorem envOk {cons : List (Nat × Con)} {exts : List (Nat × Ext)} {hints : List (Nat × Nat × Hint)} {M : Nat} (hc : ∀ e ∈ cons, ConOk e) (hx : ∀ e ∈ exts, XOk e) : EnvOk Tryd.prog (env cons exts hints M) I gl := by
  refine ⟨tyOk, fun f fn hf => ⟨hf, ?_⟩, fun f c fn hl hf => ?_, hk, mixed, fun f x hl => ?_⟩
  · have h := List.all_eq_true.1 names fn (by have hf' : Tryd.prog.funcs[f]? = some fn := hf; rw [← Array.getElem?_toList] at hf'; exact List.mem_of_getElem? hf')
    simpa using h
  · unfold env look at hl
    simp only at hl
    split at hl
    · rename_i e he
      simp only [Option.some.injEq] at hl
      subst hl
      have h1 : e.1 = f := by simpa using List.find?_some he
      subst h1
      exact hc e (List.mem_of_find?_eq_some he) fn hf
    · simp at hl
  · unfold env look at hl
    simp only at hl
    split at hl
    · rename_i e he
      simp only [Option.some.injEq] at hl
      subst hl
      have h1 : e.1 = f := by simpa using List.find?_some he
      subst h1
      exact hx e (List.mem_of_find?_eq_some he)
    · simp at hl
theorem fun115 : Tryd.prog.funcs[115]? = some Tryd.f115 := by kernel_rfl
theorem decode_ok : ConOk (115, decodeC) := by
  intro fn hfn
  obtain rfl : Tryd.f115 = fn := Option.some.inj (fun115.symm.trans hfn)
  exact decodeC_ok (ρ := Tryd.lays197_ren) Tryd.lays197 (fun _ h => h) (t5 := Tryd.f115.resultTypes[0]!) (t3 := Tryd.f115.resultTypes[1]!) (by kernel_rfl) (by kernel_rfl) (by kernel_rfl) (by kernel_rfl)
theorem insert_ok : XOk (87, insertX 9) := insertX_ok (ρ := Tryd.lays22_ren) tyOk Tryd.lays22 (by kernel_rfl)
end Go.AM.SD
