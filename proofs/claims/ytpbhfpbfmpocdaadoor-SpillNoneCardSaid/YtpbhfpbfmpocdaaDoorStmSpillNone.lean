-- The plain statement of SpillNone, by wip/row2.py.
import Derived.Test.YtpbhfpbfmpocdaaDoorPSpillNonex16
namespace Go.Proofs.YtpbhfpbfmpocdaaDoor.PSpillNone
open Go.RowKit Go.Proofs.YtpbhfpbfmpocdaaDoorW.PrintWords Go.Proofs.YtpbhfpbfmpocdaaDoorW.PrintLast Go.Proofs.YtpbhfpbfmpocdaaDoorW.PrintMore
def wfS48 (x : S48) : Prop := (Lit.int .i64 x.f0).wf = true ∧ (Lit.int .i64 x.f1).wf = true ∧ (Lit.int .i64 x.f2).wf = true ∧ (Lit.int .i64 x.f3).wf = true ∧ (Lit.int .i64 x.f4).wf = true ∧ (Lit.int .i64 x.f5).wf = true ∧ (Lit.int .i64 x.f6).wf = true
def palinglaw22_SpillNone.Pure : Prop := ∀ (l0 : List S48) (a1 : Int) (l2 : List Int), l0.length * 56 ≤ 140737488351232 → (∀ x ∈ l0, wfS48 x) → (Lit.int .u8 a1).wf = true → l2.length * 8 ≤ 140737488351232 → (∀ x ∈ l2, (Lit.int .i64 x).wf = true) → ∃ k, palinglaw22_SpillNone.f k l0 a1 l2 = some true
end Go.Proofs.YtpbhfpbfmpocdaaDoor.PSpillNone
