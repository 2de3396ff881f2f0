/- The code in which what is known stands runs as the code does, turn by turn. Conditions: those of the given statement alone. -/
import Derived.Test.YtfhjkkcdeigkdaaDoorStmFoldRuns
import Derived.Test.YtfhjkkcdeigkdaaDoorPFoldRunshg5
import Derived.Test.YtfhjkkcdeigkdaaDoorPFoldRunshg6
namespace Go.Proofs.YtfhjkkcdeigkdaaDoor.Pure
open Go.RowKit Go.Proofs.YtfhjkkcdeigkdaaDoor.PFoldRuns Go.Proofs.YtfhjkkcdeigkdaaDoorW.PrintWords Go.Proofs.YtfhjkkcdeigkdaaDoorW.PrintLast Go.Proofs.YtfhjkkcdeigkdaaDoorW.PrintMore
set_option linter.unusedVariables false
set_option linter.unusedSimpArgs false
theorem int_wf {x : Int} (h : (Lit.int .i64 x).wf = true) : inR x := by
  simp [Lit.wf, IntKind.min, IntKind.max, IntKind.signed, IntKind.bits] at h
  unfold inR
  omega
theorem byte_wf {x : Int} (h : (Lit.int .u8 x).wf = true) : 0 ≤ x ∧ x < 256 := by
  simp [Lit.wf, IntKind.min, IntKind.max, IntKind.signed, IntKind.bits] at h
  omega
theorem FoldRuns : palinglaw16_FoldRuns.Pure := by
  intro l0 l1 l2 _ hw _ _ _ hw2
  exact (truns_holds l0 l1 l2 (fun x hx => int_wf (hw x hx).2.2.2.2.2.1) (fun x hx => byte_wf (hw2 x hx))).rounds
end Go.Proofs.YtfhjkkcdeigkdaaDoor.Pure
