import Derived.Test.YtdopacgaklaaeaaDoorPDeadOncex0
import Derived.Test.YtdopacgaklaaeaaDoorPDeadOncehcompact
import Derived.Test.YtdopacgaklaaeaaDoorPDeadOncehinsregs
namespace Go.Proofs.YtdopacgaklaaeaaDoor.PDeadOnce
open Go.RowKit Go.Proofs.YtdopacgaklaaeaaDoorW.PrintWords Go.Proofs.YtdopacgaklaaeaaDoorW.PrintLast Go.Proofs.YtdopacgaklaaeaaDoorW.PrintMore
set_option linter.unusedVariables false
set_option linter.unusedSimpArgs false
/-! useRegs: rising, each once, none below 0. -/
theorem useRegs_spec (L : List Int) : (useRegs L).Pairwise (· < ·) ∧ ∀ i, i ∈ useRegs L ↔ i ∈ L ∧ 0 ≤ i := by
  have h := compact_sort (L.filter (fun x => !decide (x < 0)))
  refine ⟨h.1, fun i => ?_⟩
  unfold useRegs
  rw [h.2, List.mem_filter]
  simp
end Go.Proofs.YtdopacgaklaaeaaDoor.PDeadOnce
