import Derived.Test.YtdopacgaklaaeaaDoorPDeadOncex0
import Derived.Test.YtdopacgaklaaeaaDoorPDeadOncehlro
import Derived.Test.YtdopacgaklaaeaaDoorPDeadOncehlsp
import Derived.Test.YtdopacgaklaaeaaDoorPDeadOncehplain0
namespace Go.Proofs.YtdopacgaklaaeaaDoor.PDeadOnce
open Go.RowKit Go.Proofs.YtdopacgaklaaeaaDoorW.PrintWords Go.Proofs.YtdopacgaklaaeaaDoorW.PrintLast Go.Proofs.YtdopacgaklaaeaaDoorW.PrintMore
set_option linter.unusedVariables false
set_option linter.unusedSimpArgs false
/-! The rows of a small code. -/
theorem small_used {c : List S28} (h : ∀ x ∈ c, x.f2 ≤ 30 ∧ x.f3 ≤ 30 ∧ x.f4 ≤ 30) : ∀ r ∈ usedQ c, 0 ≤ r ∧ r ≤ 30 := by
  intro r hr
  obtain ⟨i, hi, h1⟩ := List.mem_flatMap.1 hr
  have hil := List.mem_range.1 hi
  have hx : c.getD i z28 ∈ c := by rw [List.getD_eq_getElem?_getD, List.getElem?_eq_getElem hil]; exact List.getElem_mem _
  obtain ⟨h0, h2⟩ := (useQ_mem _ r).1 h1
  have := h _ hx
  rcases h2 with ⟨_, rfl⟩ | ⟨_, rfl⟩ | ⟨_, rfl⟩ <;> omega
section
variable {c : List S28} {A B : List (List Int)}
theorem FlowS.wfA (hF : FlowS c A B) (hc : c.length ≤ 1000) (h : ∀ x ∈ c, x.f2 ≤ 30 ∧ x.f3 ≤ 30 ∧ x.f4 ≤ 30) : wfRows A := by
  refine ⟨by rw [hF.lA]; omega, fun l hl => ?_⟩
  obtain ⟨i, _, rfl⟩ := row_of hl
  refine ⟨by have := hF.nA i; omega, fun x hx => ?_⟩
  have := small_used h x (hF.sgA i x hx)
  omega
theorem FlowS.wfB (hF : FlowS c A B) (hc : c.length ≤ 1000) (h : ∀ x ∈ c, x.f2 ≤ 30 ∧ x.f3 ≤ 30 ∧ x.f4 ≤ 30) : wfRows B := by
  refine ⟨by rw [hF.lB]; omega, fun l hl => ?_⟩
  obtain ⟨i, _, rfl⟩ := row_of hl
  refine ⟨by have := hF.nB i; omega, fun x hx => ?_⟩
  have := small_used h x (hF.sgB i x hx)
  omega
theorem behind_spec (he : Ev (fun k => live_flow.f k c) (A, B)) (hw : wfRows B) : Ev (fun k => live_Behind.f k c) B := Ev.bind he (Ev.con (if_pos hw))
end
end Go.Proofs.YtdopacgaklaaeaaDoor.PDeadOnce
