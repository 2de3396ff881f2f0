/- What was inserted, and is gone again, leaves what was; with fences a code runs as without, event by event, where no fuel lacks. Conditions: those of the given statement alone. -/
import Derived.Test.YtdopacgaklaaeaaDoorStmDeadBack
import Derived.Test.YtdopacgaklaaeaaDoorPDeadBackhg0
import Derived.Test.YtdopacgaklaaeaaDoorPDeadBackhplain0
namespace Go.Proofs.YtdopacgaklaaeaaDoor.Pure
open Go.RowKit Go.Proofs.YtdopacgaklaaeaaDoor.PDeadBack Go.Proofs.YtdopacgaklaaeaaDoorW.PrintWords Go.Proofs.YtdopacgaklaaeaaDoorW.PrintLast Go.Proofs.YtdopacgaklaaeaaDoorW.PrintMore
set_option linter.unusedVariables false
set_option linter.unusedSimpArgs false
theorem DeadBack : palinglaw18_DeadBack.Pure := by
  intro l0 l1 l2 _ _ _ _ _ _
  exact (back_holds l0 l1 l2).rounds
end Go.Proofs.YtdopacgaklaaeaaDoor.Pure
