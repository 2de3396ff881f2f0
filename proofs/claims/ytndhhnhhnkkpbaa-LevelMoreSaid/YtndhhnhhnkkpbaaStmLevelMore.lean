-- The plain statement of LevelMore, by wip/row2.py.
import Derived.Test.YtndhhnhhnkkpbaaPLevelMorex6
namespace Go.Proofs.Ytndhhnhhnkkpbaa.PLevelMore
open Go.RowKit Go.Proofs.YtndhhnhhnkkpbaaW.PrintWords Go.Proofs.YtndhhnhhnkkpbaaW.PrintLast Go.Proofs.YtndhhnhhnkkpbaaW.PrintMore
def wfS26 (x : S26) : Prop := (Lit.int .i64 x.f0).wf = true ∧ (Lit.int .i64 x.f1).wf = true
def wfS36 (x : S36) : Prop := (Lit.int .i64 x.f0).wf = true ∧ (Lit.int .i64 x.f1).wf = true ∧ (Lit.int .i64 x.f2).wf = true ∧ (Lit.int .i64 x.f3).wf = true ∧ (Lit.int .i64 x.f4).wf = true ∧ (Lit.int .i64 x.f5).wf = true ∧ (Lit.int .i64 x.f6).wf = true
def palinglaw20_LevelMore.Pure : Prop := ∀ (l0 : List S36) (l1 : List S26) (a2 : Int), l0.length * 56 ≤ 140737488351232 → (∀ x ∈ l0, wfS36 x) → l1.length * 24 ≤ 140737488351232 → (∀ x ∈ l1, wfS26 x) → (Lit.int .u8 a2).wf = true → ∃ k, palinglaw20_LevelMore.f k l0 l1 a2 = some true
end Go.Proofs.Ytndhhnhhnkkpbaa.PLevelMore
