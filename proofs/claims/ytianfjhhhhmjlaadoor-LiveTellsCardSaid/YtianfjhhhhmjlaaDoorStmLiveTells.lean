-- The plain statement of LiveTells, by wip/row2.py.
import Derived.Test.YtianfjhhhhmjlaaDoorPLiveTellsx10
namespace Go.Proofs.YtianfjhhhhmjlaaDoor.PLiveTells
open Go.RowKit Go.Proofs.YtianfjhhhhmjlaaDoorW.PrintWords Go.Proofs.YtianfjhhhhmjlaaDoorW.PrintLast Go.Proofs.YtianfjhhhhmjlaaDoorW.PrintMore
def wfS39 (x : S39) : Prop := (Lit.int .i64 x.f0).wf = true ∧ (Lit.int .i64 x.f1).wf = true ∧ (Lit.int .i64 x.f2).wf = true ∧ (Lit.int .i64 x.f3).wf = true ∧ (Lit.int .i64 x.f4).wf = true ∧ (Lit.int .i64 x.f5).wf = true ∧ (Lit.int .i64 x.f6).wf = true
def palinglaw15_LiveTells.Pure : Prop := ∀ (l0 : List S39), l0.length * 56 ≤ 140737488351232 → (∀ x ∈ l0, wfS39 x) → ∃ k, palinglaw15_LiveTells.f k l0 = some true
end Go.Proofs.YtianfjhhhhmjlaaDoor.PLiveTells
