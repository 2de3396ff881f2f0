import Derived.Test.YtianfjhhhhmjlaaDoorPLiveFlowsx0
import Derived.Test.YtianfjhhhhmjlaaDoorPLiveFlowsx4
import Derived.Test.YtianfjhhhhmjlaaDoorPLiveFlowshplain0
namespace Go.Proofs.YtianfjhhhhmjlaaDoor.PLiveFlows
open Go.RowKit Go.Proofs.YtianfjhhhhmjlaaDoorW.PrintWords Go.Proofs.YtianfjhhhhmjlaaDoorW.PrintLast Go.Proofs.YtianfjhhhhmjlaaDoorW.PrintMore
set_option linter.unusedVariables false
set_option linter.unusedSimpArgs false
/-! palinglaw15.has: is a number one of some? -/
theorem lhas_spec (l : List Int) (n : Int) (hl : l.length ≤ 4611686018427387904) : Ev (fun k => palinglaw15_has.f k l n) (decide (n ∈ l)) := by
  have key : ∀ i : Int, 0 ≤ i → i ≤ (l.length : Int) → Ev (fun k => palinglaw15_has.l0 k l n i) (decide (n ∈ l.drop i.toNat)) := by
    refine up_ind ?_ ?_
    · rw [List.drop_eq_nil_of_le (by omega)]
      exact Ev.step (fun k => rfl) (Ev.neg (by omega) (Ev.con (by simp)))
    · intro i i0 i1 ih
      rw [getD_drop l 0 i.toNat (by omega), show i.toNat + 1 = (i + 1).toNat by omega]
      rw [← wrap_up i0 i1 (by omega)] at ih ⊢
      refine Ev.step (fun k => rfl) (Ev.pos i1 (Ev.pos i0 ?_))
      rw [show rd l i = l.getD i.toNat 0 from rfl]
      generalize l.getD i.toNat 0 = y
      by_cases h : y = n
      · refine Ev.pos h (Ev.con ?_)
        rw [show decide (n ∈ y :: l.drop (wrap64 (i + 1)).toNat) = true from decide_eq_true (by simp [h])]
      · refine Ev.neg h ?_
        rw [show decide (n ∈ y :: l.drop (wrap64 (i + 1)).toNat) = decide (n ∈ l.drop (wrap64 (i + 1)).toNat) from decide_eq_decide.2 (by simp; intro e; exact absurd e.symm h)]
        exact ih
  have := key 0 (by omega) (by omega)
  rw [show (0 : Int).toNat = 0 from rfl, List.drop_zero] at this
  exact this
end Go.Proofs.YtianfjhhhhmjlaaDoor.PLiveFlows
