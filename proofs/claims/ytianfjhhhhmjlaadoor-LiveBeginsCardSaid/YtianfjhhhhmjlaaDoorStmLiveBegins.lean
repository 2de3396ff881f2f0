-- The plain statement of LiveBegins, by wip/row2.py.
import Derived.Test.YtianfjhhhhmjlaaDoorPLiveBeginsx5
namespace Go.Proofs.YtianfjhhhhmjlaaDoor.PLiveBegins
open Go.RowKit Go.Proofs.YtianfjhhhhmjlaaDoorW.PrintWords Go.Proofs.YtianfjhhhhmjlaaDoorW.PrintLast Go.Proofs.YtianfjhhhhmjlaaDoorW.PrintMore
def wfS39 (x : S39) : Prop := (Lit.int .i64 x.f0).wf = true ∧ (Lit.int .i64 x.f1).wf = true ∧ (Lit.int .i64 x.f2).wf = true ∧ (Lit.int .i64 x.f3).wf = true ∧ (Lit.int .i64 x.f4).wf = true ∧ (Lit.int .i64 x.f5).wf = true ∧ (Lit.int .i64 x.f6).wf = true
def palinglaw15_LiveBegins.Pure : Prop := ∀ (l0 : List S39), l0.length * 56 ≤ 140737488351232 → (∀ x ∈ l0, wfS39 x) → ∃ k, palinglaw15_LiveBegins.f k l0 = some true
end Go.Proofs.YtianfjhhhhmjlaaDoor.PLiveBegins
