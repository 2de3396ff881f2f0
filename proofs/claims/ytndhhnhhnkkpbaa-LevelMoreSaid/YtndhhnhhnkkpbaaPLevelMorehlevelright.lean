import Derived.Test.YtndhhnhhnkkpbaaPLevelMorex0
import Derived.Test.YtndhhnhhnkkpbaaPLevelMorex2
import Derived.Test.YtndhhnhhnkkpbaaPLevelMorehpure
import Derived.Test.YtndhhnhhnkkpbaaPLevelMorehright
import Derived.Test.YtndhhnhhnkkpbaaPLevelMorehscan
namespace Go.Proofs.Ytndhhnhhnkkpbaa.PLevelMore
open Go.RowKit Go.Proofs.YtndhhnhhnkkpbaaW.PrintWords Go.Proofs.YtndhhnhhnkkpbaaW.PrintLast Go.Proofs.YtndhhnhhnkkpbaaW.PrintMore
set_option linter.unusedVariables false
set_option linter.unusedSimpArgs false
theorem right_spec (l : List S26) (words : Int) (hl : l.length ≤ 4611686018427387904) : Ev (fun k => palingref20_Right.f k l words) (decide (words ≥ 0) && (decide (words ≤ 65536) && !decide ((scanIdx (badArea words) (endArea words) 0 l 0).1 ≥ 0))) := by
  by_cases g1 : words < 0
  · refine Ev.congr (fun k => rfl) (Ev.pos g1 (Ev.step (f := fun _ => some false) (fun k => rfl) (Ev.con ?_)))
    have : ¬ words ≥ 0 := by omega
    simp [this]
  · refine Ev.congr (fun k => rfl) (Ev.neg g1 (Ev.step (fun k => rfl) ?_))
    by_cases g2 : words > 65536
    · refine Ev.pos (decide_eq_true g2) (Ev.con ?_)
      have : ¬ words ≤ 65536 := by omega
      simp [this]
    · refine Ev.neg (by simpa using g2) ?_
      have key : ∀ i : Int, 0 ≤ i → i ≤ l.length → ∀ s : Int, Ev (fun k => palingref20_Right.l0 k l words s i) (!decide ((scanIdx (badArea words) (endArea words) s (l.drop i.toNat) i.toNat).1 ≥ 0)) := by
        refine up_ind ?_ ?_
        · intro s
          refine Ev.step (fun k => rfl) (Ev.neg (by omega) (Ev.con ?_))
          rw [List.drop_eq_nil_of_le (by omega)]
          rfl
        · intro i h0 hi ih s
          refine Ev.step (fun k => rfl) (Ev.pos hi (Ev.pos h0 ?_))
          rw [getD_drop l z26 i.toNat (by omega), show l.getD i.toNat z26 = rd_T26 l i from rfl]
          unfold scanIdx
          have hbad : badArea words s (rd_T26 l i) = true → (!decide ((if badArea words s (rd_T26 l i) = true then (((i.toNat : Nat) : Int), endArea words s (rd_T26 l i)) else scanIdx (badArea words) (endArea words) (endArea words s (rd_T26 l i)) (l.drop (i.toNat + 1)) (i.toNat + 1)).1 ≥ 0)) = false := fun h => by
            rw [if_pos h]
            simp only [ge_iff_le, Bool.not_eq_false', decide_eq_true_eq]
            omega
          by_cases c1 : (rd_T26 l i).f0 < s
          · exact Ev.pos c1 (Ev.con (by rw [hbad (by simp [badArea, c1])]))
          · refine Ev.neg c1 ?_
            by_cases c2 : (rd_T26 l i).f1 < 1
            · exact Ev.pos c2 (Ev.con (by rw [hbad (by simp [badArea, c2])]))
            · refine Ev.neg c2 ?_
              by_cases c3 : (rd_T26 l i).f0 > words
              · exact Ev.pos c3 (Ev.con (by rw [hbad (by simp [badArea]; omega)]))
              · refine Ev.neg c3 ?_
                by_cases c4 : (rd_T26 l i).f1 > wrap64 (words - (rd_T26 l i).f0)
                · exact Ev.pos c4 (Ev.con (by rw [hbad (by simp [badArea]; omega)]))
                · refine Ev.neg c4 ?_
                  have hb : badArea words s (rd_T26 l i) = false := by simp [badArea]; omega
                  rw [hb, wrap_up h0 hi hl]
                  simp only [Bool.false_eq_true, if_false]
                  have he : endArea words s (rd_T26 l i) = wrap64 ((rd_T26 l i).f0 + (rd_T26 l i).f1) := by simp [endArea, hb]
                  rw [he]
                  have := ih (wrap64 ((rd_T26 l i).f0 + (rd_T26 l i).f1))
                  rw [show (i + 1).toNat = i.toNat + 1 by omega] at this
                  exact this
      have h3 : words ≥ 0 := by omega
      have h4 : words ≤ 65536 := by omega
      simpa [h3, h4] using key 0 (by omega) (by omega) 0
end Go.Proofs.Ytndhhnhhnkkpbaa.PLevelMore
