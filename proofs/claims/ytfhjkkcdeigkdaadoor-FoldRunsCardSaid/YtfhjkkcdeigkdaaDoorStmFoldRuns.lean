-- The plain statement of FoldRuns, by wip/row2.py.
import Derived.Test.YtfhjkkcdeigkdaaDoorPFoldRunshg5
namespace Go.Proofs.YtfhjkkcdeigkdaaDoor.PFoldRuns
open Go.RowKit Go.Proofs.YtfhjkkcdeigkdaaDoorW.PrintWords Go.Proofs.YtfhjkkcdeigkdaaDoorW.PrintLast Go.Proofs.YtfhjkkcdeigkdaaDoorW.PrintMore
def wfS53 (x : S53) : Prop := (Lit.int .i64 x.f0).wf = true ∧ (Lit.int .i64 x.f1).wf = true ∧ (Lit.int .i64 x.f2).wf = true ∧ (Lit.int .i64 x.f3).wf = true ∧ (Lit.int .i64 x.f4).wf = true ∧ (Lit.int .i64 x.f5).wf = true ∧ (Lit.int .i64 x.f6).wf = true
def palinglaw16_FoldRuns.Pure : Prop := ∀ (l0 : List S53) (l1 : List Int) (l2 : List Int), l0.length * 56 ≤ 140737488351232 → (∀ x ∈ l0, wfS53 x) → l1.length * 8 ≤ 140737488351232 → (∀ x ∈ l1, (Lit.int .i64 x).wf = true) → l2.length * 1 ≤ 140737488351232 → (∀ x ∈ l2, (Lit.int .u8 x).wf = true) → ∃ k, palinglaw16_FoldRuns.f k l0 l1 l2 = some true
end Go.Proofs.YtfhjkkcdeigkdaaDoor.PFoldRuns
