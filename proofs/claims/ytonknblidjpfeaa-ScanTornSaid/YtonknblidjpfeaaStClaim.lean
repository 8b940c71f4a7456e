/- The law 'ScanTorn' answers true, whatever comes in, and leaves it as it was. -/
import Derived.Test.YtonknblidjpfeaaSt12
import Derived.Test.YtonknblidjpfeaaRows
set_option linter.all false
set_option linter.unusedSimpArgs false
set_option linter.unusedVariables false
set_option linter.unusedSectionVars false
namespace Go.Proofs.Ytonknblidjpfeaa
open Go Go.AM Go.ChangeShapes Go.WideShapes Go.ChangeAt Go.RowKit
theorem own : ownKnob Try.prog.godebug = none := by kernel_rfl
set_option maxRecDepth 100000 in
theorem lifted (os : Os) (started : os.Started) (H : Type) (enc : TypeId × Value → H) :
    ReturnsInHanded {} Try.checked os 6 .any (Rows.scanTornSpec.pre6 enc Try.prog Try.f6 Rows.scanTornRow.domain false) (Rows.scanTornSpec.post enc Try.prog Try.f6 false true false false) := by
  refine returnsInHanded_of_change (C := Try.checked) own started (by kernel_rfl) Try.func6
    (ChangeSpec.witness6 (enc := enc) (C := Try.checked) false ⟨#[], #[.agg #[.slice none 0 0, .slice none 0 0], .agg #[.slice none 0 0, .slice none 0 0], .int .i64 0, .int .i64 0, .slice none 0 0], []⟩ 8 (by kernel_rfl) (by kernel_rfl) (by kernel_rfl) (by kernel_rfl)) ?_
  intro W base args ds gs before hval hW _ _
  exact law_calls Go.AM.SP.tyOk (Go.AM.SP.F6.ok Try.f6 Go.AM.SP.F6.fun_at) rfl (by kernel_rfl) (by kernel_rfl) (tb := 4) (by kernel_rfl) (by kernel_rfl)
    (fun ds h1 h2 => Go.AM.SP.pure6 ds (by rw [Go.AM.SP.F6.params] at h1; exact h1) h2) rfl
    (fun ds hl => by
      have hl' : ds.length = 5 := hl
      match ds, hl' with
      | [d0, d1, d2, d3, d4], _ => exact ⟨rfl, rfl, rfl⟩) (show Go.AM.SP.I W from True.intro) hval hW
theorem row_holds : Rows.ScanTornSaid :=
  OpenClaim.holds_of_wide 6 Try.f6 rfl rfl rfl rfl rfl rfl rfl ⟨rfl, rfl, rfl, rfl, rfl⟩ rfl rfl rfl rfl rfl (by kernel_rfl) Try.func6 (by kernel_rfl)
    (of_decide_eq_true (by kernel_rfl)) (by unfold Func.isWrapper; first | (rw [if_pos (by decide +kernel)]; kernel_rfl) | (rw [if_neg (by decide +kernel)]; exact ⟨rfl, rfl⟩))
    (fun os started H enc _ => lifted os started H enc)
#print axioms row_holds
end Go.Proofs.Ytonknblidjpfeaa
