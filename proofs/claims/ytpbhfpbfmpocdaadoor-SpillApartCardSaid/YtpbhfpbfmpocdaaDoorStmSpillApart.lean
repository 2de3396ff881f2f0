-- The plain statement of SpillApart, by wip/row2.py.
import Derived.Test.YtpbhfpbfmpocdaaDoorPSpillApartx5
namespace Go.Proofs.YtpbhfpbfmpocdaaDoor.PSpillApart
open Go.RowKit Go.Proofs.YtpbhfpbfmpocdaaDoorW.PrintWords Go.Proofs.YtpbhfpbfmpocdaaDoorW.PrintLast Go.Proofs.YtpbhfpbfmpocdaaDoorW.PrintMore
def wfS45 (x : S45) : Prop := (Lit.int .i64 x.f0).wf = true ∧ (Lit.int .i64 x.f1).wf = true
def palinglaw22_SpillApart.Pure : Prop := ∀ (l0 : List S45) (l1 : List Int), l0.length * 16 ≤ 140737488351232 → (∀ x ∈ l0, wfS45 x) → l1.length * 8 ≤ 140737488351232 → (∀ x ∈ l1, (Lit.int .i64 x).wf = true) → ∃ k, palinglaw22_SpillApart.f k l0 l1 = some true
end Go.Proofs.YtpbhfpbfmpocdaaDoor.PSpillApart
