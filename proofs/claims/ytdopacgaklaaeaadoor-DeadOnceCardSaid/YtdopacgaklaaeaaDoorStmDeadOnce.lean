-- The plain statement of DeadOnce, by wip/row2.py.
import Derived.Test.YtdopacgaklaaeaaDoorPDeadOncex10
namespace Go.Proofs.YtdopacgaklaaeaaDoor.PDeadOnce
open Go.RowKit Go.Proofs.YtdopacgaklaaeaaDoorW.PrintWords Go.Proofs.YtdopacgaklaaeaaDoorW.PrintLast Go.Proofs.YtdopacgaklaaeaaDoorW.PrintMore
def wfS28 (x : S28) : Prop := (Lit.int .i64 x.f0).wf = true ∧ (Lit.int .i64 x.f1).wf = true ∧ (Lit.int .i64 x.f2).wf = true ∧ (Lit.int .i64 x.f3).wf = true ∧ (Lit.int .i64 x.f4).wf = true ∧ (Lit.int .i64 x.f5).wf = true ∧ (Lit.int .i64 x.f6).wf = true
def palinglaw18_DeadOnce.Pure : Prop := ∀ (l0 : List S28), l0.length * 56 ≤ 140737488351232 → (∀ x ∈ l0, wfS28 x) → ∃ k, palinglaw18_DeadOnce.f k l0 = some true
end Go.Proofs.YtdopacgaklaaeaaDoor.PDeadOnce
