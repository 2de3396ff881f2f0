-- The plain statement of InsChecks, by wip/row2.py.
import Derived.Test.YtggfikekggcclaaDoorPInsChecksx9
namespace Go.Proofs.YtggfikekggcclaaDoor.PInsChecks
open Go.RowKit Go.Proofs.YtggfikekggcclaaDoorW.PrintWords Go.Proofs.YtggfikekggcclaaDoorW.PrintLast Go.Proofs.YtggfikekggcclaaDoorW.PrintMore
def wfS23 (x : S23) : Prop := (Lit.int .i64 x.f0).wf = true ∧ (Lit.int .i64 x.f1).wf = true ∧ (Lit.int .i64 x.f2).wf = true ∧ (Lit.int .i64 x.f3).wf = true ∧ (Lit.int .i64 x.f4).wf = true ∧ (Lit.int .i64 x.f5).wf = true ∧ (Lit.int .i64 x.f6).wf = true
def palinglaw11_InsChecks.Pure : Prop := ∀ (l0 : List S23) (a1 : Int) (a2 : Int), l0.length * 56 ≤ 140737488351232 → (∀ x ∈ l0, wfS23 x) → (Lit.int .i64 a1).wf = true → (Lit.int .i64 a2).wf = true → ∃ k, palinglaw11_InsChecks.f k l0 a1 a2 = some true
end Go.Proofs.YtggfikekggcclaaDoor.PInsChecks
