/- A code without what nobody needs runs as it did, event by event, and leaves the same memory, where no fuel lacks. Conditions: those of the given statement alone. -/
import Derived.Test.YtdopacgaklaaeaaDoorStmDeadRuns
import Derived.Test.YtdopacgaklaaeaaDoorPDeadRunshdruns4
import Derived.Test.YtdopacgaklaaeaaDoorPDeadRunshplain0
namespace Go.Proofs.YtdopacgaklaaeaaDoor.Pure
open Go.RowKit Go.Proofs.YtdopacgaklaaeaaDoor.PDeadRuns Go.Proofs.YtdopacgaklaaeaaDoorW.PrintWords Go.Proofs.YtdopacgaklaaeaaDoorW.PrintLast Go.Proofs.YtdopacgaklaaeaaDoorW.PrintMore
set_option linter.unusedVariables false
set_option linter.unusedSimpArgs false
theorem DeadRuns : palinglaw18_DeadRuns.Pure := by
  intro l0 l1 a2 _ _ _ _ _
  exact (runs_holds l0 l1 a2).rounds
end Go.Proofs.YtdopacgaklaaeaaDoor.Pure
