import Derived.Test.YtdopacgaklaaeaaDoorPDeadOncex0
import Derived.Test.YtdopacgaklaaeaaDoorPDeadOncex3
import Derived.Test.YtdopacgaklaaeaaDoorPDeadOncehplain0
namespace Go.Proofs.YtdopacgaklaaeaaDoor.PDeadOnce
open Go.RowKit Go.Proofs.YtdopacgaklaaeaaDoorW.PrintWords Go.Proofs.YtdopacgaklaaeaaDoorW.PrintLast Go.Proofs.YtdopacgaklaaeaaDoorW.PrintMore
set_option linter.unusedVariables false
set_option linter.unusedSimpArgs false
theorem same13_spec (a : List S28) (ha : a.length ≤ 1000000) : Ev (fun k => palingref13_Same.f k a a) true := by
  have main : ∀ i : Int, 0 ≤ i → i ≤ a.length → Ev (fun k => palingref13_Same.l0 k a a i) true := by
    refine up_ind ?_ ?_
    · exact Ev.step (fun k => rfl) (Ev.neg (by omega) (Ev.now _))
    · intro i i0 i1 ih
      have hw : wrap64 (i + 1) = i + 1 := wrap_up i0 i1 (by omega)
      rw [← hw] at ih
      exact Ev.step (fun k => rfl) (Ev.pos i1 (Ev.pos i0 (Ev.pos i1 (Ev.neg (by simp) ih))))
  exact Ev.congr (fun k => rfl) (Ev.pos rfl (main 0 (by omega) (by omega)))
end Go.Proofs.YtdopacgaklaaeaaDoor.PDeadOnce
