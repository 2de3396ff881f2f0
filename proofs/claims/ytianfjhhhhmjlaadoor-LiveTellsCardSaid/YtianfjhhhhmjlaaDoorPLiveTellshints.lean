import Derived.Test.YtianfjhhhhmjlaaDoorPLiveTellsx0
import Derived.Test.YtianfjhhhhmjlaaDoorPLiveTellsx2
import Derived.Test.YtianfjhhhhmjlaaDoorPLiveTellshplain0
namespace Go.Proofs.YtianfjhhhhmjlaaDoor.PLiveTells
open Go.RowKit Go.Proofs.YtianfjhhhhmjlaaDoorW.PrintWords Go.Proofs.YtianfjhhhhmjlaaDoorW.PrintLast Go.Proofs.YtianfjhhhhmjlaaDoorW.PrintMore
set_option linter.unusedVariables false
set_option linter.unusedSimpArgs false
/-- palingref14.Ints: are two rows one? -/
theorem ints_spec (l m : List Int) (hl : l.length ≤ 4611686018427387904) : Ev (fun k => palingref14_Ints.f k l m) (decide (l = m)) := by
  by_cases he : l.length = m.length
  · have key : ∀ i : Int, 0 ≤ i → i ≤ l.length → Ev (fun k => palingref14_Ints.l0 k l m i) (decide (l.drop i.toNat = m.drop i.toNat)) := by
      refine up_ind ?_ ?_
      · refine Ev.step (fun k => rfl) (Ev.neg (by omega) (Ev.con ?_))
        rw [List.drop_eq_nil_of_le (by omega), List.drop_eq_nil_of_le (by omega)]
        simp
      · intro i h0 h1 ih
        refine Ev.step (fun k => rfl) (Ev.pos h1 (Ev.pos h0 (Ev.pos (by omega) ?_)))
        rw [getD_drop l 0 i.toNat (by omega), getD_drop m 0 i.toNat (by omega)]
        have ha : rd l i = l.getD i.toNat 0 := rfl
        have hb : rd m i = m.getD i.toNat 0 := rfl
        by_cases hq : rd l i = rd m i
        · refine Ev.pos hq ?_
          rw [wrap_up h0 h1 hl]
          rw [show (i + 1).toNat = i.toNat + 1 by omega] at ih
          have : decide (l.getD i.toNat 0 :: l.drop (i.toNat + 1) = m.getD i.toNat 0 :: m.drop (i.toNat + 1)) = decide (l.drop (i.toNat + 1) = m.drop (i.toNat + 1)) := by
            rw [← ha, ← hb, hq]; simp
          rw [this]
          exact ih
        · refine Ev.neg hq (Ev.con ?_)
          rw [← ha, ← hb]
          simp [hq]
    refine Ev.congr (fun k => rfl) (Ev.pos (by omega) ?_)
    simpa using key 0 (by omega) (by omega)
  · refine Ev.congr (fun k => rfl) (Ev.neg (by omega) (Ev.con ?_))
    have : l ≠ m := fun h => he (by rw [h])
    simp [this]
end Go.Proofs.YtianfjhhhhmjlaaDoor.PLiveTells
