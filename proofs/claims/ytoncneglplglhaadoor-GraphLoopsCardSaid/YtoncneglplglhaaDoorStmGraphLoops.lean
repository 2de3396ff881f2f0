-- The plain statement of GraphLoops, by wip/row2.py.
import Derived.Test.YtoncneglplglhaaDoorPGraphLoopsx7
namespace Go.Proofs.YtoncneglplglhaaDoor.PGraphLoops
open Go.RowKit Go.Proofs.YtoncneglplglhaaDoorW.PrintWords Go.Proofs.YtoncneglplglhaaDoorW.PrintLast Go.Proofs.YtoncneglplglhaaDoorW.PrintMore
def wfS37 (x : S37) : Prop := (Lit.int .i64 x.f0).wf = true ∧ (Lit.int .i64 x.f1).wf = true ∧ (Lit.int .i64 x.f2).wf = true ∧ (Lit.int .i64 x.f3).wf = true ∧ (Lit.int .i64 x.f4).wf = true ∧ (Lit.int .i64 x.f5).wf = true ∧ (Lit.int .i64 x.f6).wf = true
def palinglaw14_GraphLoops.Pure : Prop := ∀ (l0 : List S37), l0.length * 56 ≤ 140737488351232 → (∀ x ∈ l0, wfS37 x) → ∃ k, palinglaw14_GraphLoops.f k l0 = some true
end Go.Proofs.YtoncneglplglhaaDoor.PGraphLoops
