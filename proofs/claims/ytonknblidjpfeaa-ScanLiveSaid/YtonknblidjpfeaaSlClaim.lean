/- The law 'ScanLive' answers true, whatever comes in, and leaves it as it was. -/
import Derived.Test.YtonknblidjpfeaaSl12
import Derived.Test.YtonknblidjpfeaaRows
set_option linter.all false
set_option linter.unusedSimpArgs false
set_option linter.unusedVariables false
set_option linter.unusedSectionVars false
namespace Go.Proofs.Ytonknblidjpfeaa
open Go Go.AM Go.ChangeShapes Go.WideShapes Go.ChangeAt Go.RowKit
theorem own : ownKnob Try.prog.godebug = none := by kernel_rfl
set_option maxRecDepth 100000 in
theorem lifted (os : Os) (started : os.Started) (H : Type) (enc : TypeId × Value → H) :
    ReturnsInHanded {} Try.checked os 5 .any (Rows.scanLiveSpec.pre6 enc Try.prog Try.f5 Rows.scanLiveRow.domain false) (Rows.scanLiveSpec.post enc Try.prog Try.f5 false true false false) := by
  refine returnsInHanded_of_change (C := Try.checked) own started (by kernel_rfl) Try.func5
    (ChangeSpec.witness6 (enc := enc) (C := Try.checked) false ⟨#[], #[.slice none 0 0], []⟩ 8 (by kernel_rfl) (by kernel_rfl) (by kernel_rfl) (by kernel_rfl)) ?_
  intro W base args ds gs before hval hW _ _
  exact law_calls Go.AM.SP.tyOk (Go.AM.SP.F5.ok Try.f5 Go.AM.SP.F5.fun_at) rfl (by kernel_rfl) (by kernel_rfl) (tb := 4) (by kernel_rfl) (by kernel_rfl)
    (fun ds h1 h2 => Go.AM.SP.pure5 ds (by rw [Go.AM.SP.F5.params] at h1; exact h1) h2) rfl
    (fun ds hl => by
      have hl' : ds.length = 1 := hl
      match ds, hl' with
      | [d0], _ => exact ⟨rfl, rfl, rfl⟩) (show Go.AM.SP.I W from True.intro) hval hW
theorem row_holds : Rows.ScanLiveSaid :=
  OpenClaim.holds_of_wide 5 Try.f5 rfl rfl rfl rfl rfl rfl rfl ⟨rfl, rfl, rfl, rfl, rfl⟩ rfl rfl rfl rfl rfl (by kernel_rfl) Try.func5 (by kernel_rfl)
    (of_decide_eq_true (by kernel_rfl)) (by unfold Func.isWrapper; first | (rw [if_pos (by decide +kernel)]; kernel_rfl) | (rw [if_neg (by decide +kernel)]; exact ⟨rfl, rfl⟩))
    (fun os started H enc _ => lifted os started H enc)
#print axioms row_holds
end Go.Proofs.Ytonknblidjpfeaa
