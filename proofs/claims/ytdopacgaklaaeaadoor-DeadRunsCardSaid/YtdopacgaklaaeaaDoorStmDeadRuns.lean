-- The plain statement of DeadRuns, by wip/row2.py.
import Derived.Test.YtdopacgaklaaeaaDoorPDeadRunshldruns
namespace Go.Proofs.YtdopacgaklaaeaaDoor.PDeadRuns
open Go.RowKit Go.Proofs.YtdopacgaklaaeaaDoorW.PrintWords Go.Proofs.YtdopacgaklaaeaaDoorW.PrintLast Go.Proofs.YtdopacgaklaaeaaDoorW.PrintMore
def wfS28 (x : S28) : Prop := (Lit.int .i64 x.f0).wf = true ∧ (Lit.int .i64 x.f1).wf = true ∧ (Lit.int .i64 x.f2).wf = true ∧ (Lit.int .i64 x.f3).wf = true ∧ (Lit.int .i64 x.f4).wf = true ∧ (Lit.int .i64 x.f5).wf = true ∧ (Lit.int .i64 x.f6).wf = true
def palinglaw18_DeadRuns.Pure : Prop := ∀ (l0 : List S28) (l1 : List Int) (a2 : Int), l0.length * 56 ≤ 140737488351232 → (∀ x ∈ l0, wfS28 x) → l1.length * 8 ≤ 140737488351232 → (∀ x ∈ l1, (Lit.int .i64 x).wf = true) → (Lit.int .u8 a2).wf = true → ∃ k, palinglaw18_DeadRuns.f k l0 l1 a2 = some true
end Go.Proofs.YtdopacgaklaaeaaDoor.PDeadRuns
