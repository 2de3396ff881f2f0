-- The plain statement of FoldKnows, by wip/row2.py.
import Derived.Test.YtfhjkkcdeigkdaaDoorPFoldKnowshg6
namespace Go.Proofs.YtfhjkkcdeigkdaaDoor.PFoldKnows
open Go.RowKit Go.Proofs.YtfhjkkcdeigkdaaDoorW.PrintWords Go.Proofs.YtfhjkkcdeigkdaaDoorW.PrintLast Go.Proofs.YtfhjkkcdeigkdaaDoorW.PrintMore
def wfS53 (x : S53) : Prop := (Lit.int .i64 x.f0).wf = true ∧ (Lit.int .i64 x.f1).wf = true ∧ (Lit.int .i64 x.f2).wf = true ∧ (Lit.int .i64 x.f3).wf = true ∧ (Lit.int .i64 x.f4).wf = true ∧ (Lit.int .i64 x.f5).wf = true ∧ (Lit.int .i64 x.f6).wf = true
def palinglaw16_FoldKnows.Pure : Prop := ∀ (l0 : List S53) (l1 : List Int) (a2 : Int), l0.length * 56 ≤ 140737488351232 → (∀ x ∈ l0, wfS53 x) → l1.length * 8 ≤ 140737488351232 → (∀ x ∈ l1, (Lit.int .i64 x).wf = true) → (Lit.int .u8 a2).wf = true → ∃ k, palinglaw16_FoldKnows.f k l0 l1 a2 = some true
end Go.Proofs.YtfhjkkcdeigkdaaDoor.PFoldKnows
