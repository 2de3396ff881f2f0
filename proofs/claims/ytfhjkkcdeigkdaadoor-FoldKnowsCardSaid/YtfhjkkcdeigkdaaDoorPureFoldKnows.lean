/- What is known is so: a register has it, whenever a run stands there. Conditions: those of the given statement alone. -/
import Derived.Test.YtfhjkkcdeigkdaaDoorStmFoldKnows
import Derived.Test.YtfhjkkcdeigkdaaDoorPFoldKnowshg6
import Derived.Test.YtfhjkkcdeigkdaaDoorPFoldKnowshg7
namespace Go.Proofs.YtfhjkkcdeigkdaaDoor.Pure
open Go.RowKit Go.Proofs.YtfhjkkcdeigkdaaDoor.PFoldKnows Go.Proofs.YtfhjkkcdeigkdaaDoorW.PrintWords Go.Proofs.YtfhjkkcdeigkdaaDoorW.PrintLast Go.Proofs.YtfhjkkcdeigkdaaDoorW.PrintMore
set_option linter.unusedVariables false
set_option linter.unusedSimpArgs false
theorem int_wf {x : Int} (h : (Lit.int .i64 x).wf = true) : inR x := by
  simp [Lit.wf, IntKind.min, IntKind.max, IntKind.signed, IntKind.bits] at h
  unfold inR
  omega
theorem FoldKnows : palinglaw16_FoldKnows.Pure := by
  intro l0 l1 a2 _ hw _ _ _
  exact (knows_holds l0 l1 a2 (fun x hx => int_wf (hw x hx).2.2.2.2.2.1)).rounds
end Go.Proofs.YtfhjkkcdeigkdaaDoor.Pure
