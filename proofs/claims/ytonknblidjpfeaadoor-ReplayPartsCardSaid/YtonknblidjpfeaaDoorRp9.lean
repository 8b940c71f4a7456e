/- Part 9 of the proof: the abstract machine, what the functions compute, and plain laws over that. -/
import Derived.Test.YtonknblidjpfeaaDoorRp8
set_option linter.all false
set_option linter.unusedSimpArgs false
set_option linter.unusedVariables false
set_option linter.unusedSectionVars false
namespace Go.AM.SD
open Go Go.AM
theorem evs_of {d : D} (h : D.has ty d (.slice 38)) (hw : D.wf d) : ∃ (nn : Bool) (l : List Ev), d = dl nn (l.map Ev.enc) ∧ ∀ e ∈ l, e.ok := by
  obtain ⟨nn, ds, rfl, h1, h2⟩ := hass_slice h
  simp only [D.wf] at hw
  obtain ⟨l, rfl, _, hl⟩ := hass_rep (f := Ev.enc) (Q := fun e : Ev => e.ok) (fun d h1 h2 => ev_of (fs := [34, 3, 9, 3, 3, 36]) (e := 5) rfl rfl h1 h2) h1 (by first | exact hw | exact hw.1 | exact hw.2)
  exact ⟨nn, l, rfl, hl⟩
theorem pure3 : ∀ ds, D.hass ty ds [(.slice 38), (.int .i64)] → D.wfs ds → F3.c.run ds = some (.bool true) := by
  intro ds h hw
  obtain ⟨d0, _, rfl, h0, h⟩ := hassC h
  obtain ⟨d1, _, rfl, h1, h⟩ := hassC h
  obtain rfl := hass0 h
  simp only [D.wfs] at hw
  obtain ⟨nn, l, rfl, hl⟩ := evs_of h0 hw.1
  obtain ⟨n, rfl⟩ := has_int h1
  exact parts_law nn l hl n
end Go.AM.SD
