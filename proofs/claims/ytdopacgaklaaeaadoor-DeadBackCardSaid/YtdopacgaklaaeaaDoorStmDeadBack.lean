-- The plain statement of DeadBack, by wip/row2.py.
import Derived.Test.YtdopacgaklaaeaaDoorPDeadBackhldback
namespace Go.Proofs.YtdopacgaklaaeaaDoor.PDeadBack
open Go.RowKit Go.Proofs.YtdopacgaklaaeaaDoorW.PrintWords Go.Proofs.YtdopacgaklaaeaaDoorW.PrintLast Go.Proofs.YtdopacgaklaaeaaDoorW.PrintMore
def wfS28 (x : S28) : Prop := (Lit.int .i64 x.f0).wf = true ∧ (Lit.int .i64 x.f1).wf = true ∧ (Lit.int .i64 x.f2).wf = true ∧ (Lit.int .i64 x.f3).wf = true ∧ (Lit.int .i64 x.f4).wf = true ∧ (Lit.int .i64 x.f5).wf = true ∧ (Lit.int .i64 x.f6).wf = true
def palinglaw18_DeadBack.Pure : Prop := ∀ (l0 : List S28) (l1 : List Int) (l2 : List Int), l0.length * 56 ≤ 140737488351232 → (∀ x ∈ l0, wfS28 x) → l1.length * 8 ≤ 140737488351232 → (∀ x ∈ l1, (Lit.int .i64 x).wf = true) → l2.length * 1 ≤ 140737488351232 → (∀ x ∈ l2, (Lit.int .u8 x).wf = true) → ∃ k, palinglaw18_DeadBack.f k l0 l1 l2 = some true
end Go.Proofs.YtdopacgaklaaeaaDoor.PDeadBack
