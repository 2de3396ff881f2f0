import Derived.Test.YtndhhnhhnkkpbaaPLevelTellsx0
import Derived.Test.YtndhhnhhnkkpbaaPLevelTellsx2
import Derived.Test.YtndhhnhhnkkpbaaPLevelTellsx5
import Derived.Test.YtndhhnhhnkkpbaaPLevelTellsharea
import Derived.Test.YtndhhnhhnkkpbaaPLevelTellshpure
import Derived.Test.YtndhhnhhnkkpbaaPLevelTellshright
import Derived.Test.YtndhhnhhnkkpbaaPLevelTellshscan
import Derived.Test.YtndhhnhhnkkpbaaPLevelTellshsecret
namespace Go.Proofs.Ytndhhnhhnkkpbaa.PLevelTells
open Go.RowKit Go.Proofs.YtndhhnhhnkkpbaaW.PrintWords Go.Proofs.YtndhhnhhnkkpbaaW.PrintLast Go.Proofs.YtndhhnhhnkkpbaaW.PrintMore
set_option linter.unusedVariables false
set_option linter.unusedSimpArgs false
/-! palingref20, and the program's level, in plain words. -/
theorem area_spec (l : List S26) (word : Int) (hl : l.length ≤ 4611686018427387904) : Ev (fun k => palingref20_Area.f k l word) (areaIdx l word) := by
  have key : ∀ i : Int, 0 ≤ i → i ≤ l.length → Ev (fun k => palingref20_Area.l0 k l word i) (scanIdx (σ := Unit) (fun _ => inArea word) (fun _ _ => ()) () (l.drop i.toNat) i.toNat).1 := by
    refine up_ind ?_ ?_
    · refine Ev.step (fun k => rfl) (Ev.neg (by omega) (Ev.con ?_))
      rw [List.drop_eq_nil_of_le (by omega)]
      rfl
    · intro i h0 hi ih
      refine Ev.step (fun k => rfl) (Ev.pos hi (Ev.pos h0 ?_))
      rw [getD_drop l z26 i.toNat (by omega), show l.getD i.toNat z26 = rd_T26 l i from rfl]
      unfold scanIdx
      rw [wrap_up h0 hi hl]
      rw [show (i + 1).toNat = i.toNat + 1 by omega] at ih
      by_cases c1 : word ≥ (rd_T26 l i).f0
      · refine Ev.pos c1 ?_
        by_cases c2 : word < wrap64 ((rd_T26 l i).f0 + (rd_T26 l i).f1)
        · refine Ev.pos c2 (Ev.con ?_)
          have : inArea word (rd_T26 l i) = true := by simp [inArea, c2]; omega
          rw [if_pos this]
          show some i = some ((i.toNat : Nat) : Int)
          congr 1; omega
        · refine Ev.neg c2 ?_
          have : inArea word (rd_T26 l i) = false := by simp [inArea, c2]
          rw [this]
          simpa using ih
      · refine Ev.neg c1 ?_
        have : inArea word (rd_T26 l i) = false := by simp [inArea]; omega
        rw [this]
        simpa using ih
  simpa [palingref20_Area.f, areaIdx] using key 0 (by omega) (by omega)
theorem right_spec (l : List S26) (words : Int) (hl : l.length ≤ 4611686018427387904) : Ev (fun k => palingref20_Right.f k l words) (decide (words ≥ 0) && (decide (words ≤ 65536) && !decide ((scanIdx (badArea words) (endArea words) 0 l 0).1 ≥ 0))) := by
  by_cases g1 : words < 0
  · refine Ev.congr (fun k => rfl) (Ev.pos g1 (Ev.step (f := fun _ => some false) (fun k => rfl) (Ev.con ?_)))
    have : ¬ words ≥ 0 := by omega
    simp [this]
  · refine Ev.congr (fun k => rfl) (Ev.neg g1 (Ev.step (fun k => rfl) ?_))
    by_cases g2 : words > 65536
    · refine Ev.pos (decide_eq_true g2) (Ev.con ?_)
      have : ¬ words ≤ 65536 := by omega
      simp [this]
    · refine Ev.neg (by simpa using g2) ?_
      have key : ∀ i : Int, 0 ≤ i → i ≤ l.length → ∀ s : Int, Ev (fun k => palingref20_Right.l0 k l words s i) (!decide ((scanIdx (badArea words) (endArea words) s (l.drop i.toNat) i.toNat).1 ≥ 0)) := by
        refine up_ind ?_ ?_
        · intro s
          refine Ev.step (fun k => rfl) (Ev.neg (by omega) (Ev.con ?_))
          rw [List.drop_eq_nil_of_le (by omega)]
          rfl
        · intro i h0 hi ih s
          refine Ev.step (fun k => rfl) (Ev.pos hi (Ev.pos h0 ?_))
          rw [getD_drop l z26 i.toNat (by omega), show l.getD i.toNat z26 = rd_T26 l i from rfl]
          unfold scanIdx
          have hbad : badArea words s (rd_T26 l i) = true → (!decide ((if badArea words s (rd_T26 l i) = true then (((i.toNat : Nat) : Int), endArea words s (rd_T26 l i)) else scanIdx (badArea words) (endArea words) (endArea words s (rd_T26 l i)) (l.drop (i.toNat + 1)) (i.toNat + 1)).1 ≥ 0)) = false := fun h => by
            rw [if_pos h]
            simp only [ge_iff_le, Bool.not_eq_false', decide_eq_true_eq]
            omega
          by_cases c1 : (rd_T26 l i).f0 < s
          · exact Ev.pos c1 (Ev.con (by rw [hbad (by simp [badArea, c1])]))
          · refine Ev.neg c1 ?_
            by_cases c2 : (rd_T26 l i).f1 < 1
            · exact Ev.pos c2 (Ev.con (by rw [hbad (by simp [badArea, c2])]))
            · refine Ev.neg c2 ?_
              by_cases c3 : (rd_T26 l i).f0 > words
              · exact Ev.pos c3 (Ev.con (by rw [hbad (by simp [badArea]; omega)]))
              · refine Ev.neg c3 ?_
                by_cases c4 : (rd_T26 l i).f1 > wrap64 (words - (rd_T26 l i).f0)
                · exact Ev.pos c4 (Ev.con (by rw [hbad (by simp [badArea]; omega)]))
                · refine Ev.neg c4 ?_
                  have hb : badArea words s (rd_T26 l i) = false := by simp [badArea]; omega
                  rw [hb, wrap_up h0 hi hl]
                  simp only [Bool.false_eq_true, if_false]
                  have he : endArea words s (rd_T26 l i) = wrap64 ((rd_T26 l i).f0 + (rd_T26 l i).f1) := by simp [endArea, hb]
                  rw [he]
                  have := ih (wrap64 ((rd_T26 l i).f0 + (rd_T26 l i).f1))
                  rw [show (i + 1).toNat = i.toNat + 1 by omega] at this
                  exact this
      have h3 : words ≥ 0 := by omega
      have h4 : words ≤ 65536 := by omega
      simpa [h3, h4] using key 0 (by omega) (by omega) 0
theorem has20_spec (l : List Int) (n : Int) (hl : l.length ≤ 4611686018427387904) : Ev (fun k => palingref20_has.f k l n) (l.contains n) := by
  have key : ∀ i : Int, 0 ≤ i → i ≤ l.length → Ev (fun k => palingref20_has.l0 k l n i) ((l.drop i.toNat).contains n) := by
    refine up_ind ?_ ?_
    · refine Ev.step (fun k => rfl) (Ev.neg (by omega) (Ev.con ?_))
      rw [List.drop_eq_nil_of_le (by omega)]
      rfl
    · intro i h0 hi ih
      refine Ev.step (fun k => rfl) (Ev.pos hi (Ev.pos h0 ?_))
      rw [getD_drop l 0 i.toNat (by omega), show l.getD i.toNat 0 = rd l i from rfl, wrap_up h0 hi hl, List.contains_cons]
      rw [show (i + 1).toNat = i.toNat + 1 by omega] at ih
      by_cases c : rd l i = n
      · exact Ev.pos c (Ev.con (by simp [c]))
      · refine Ev.neg c ?_
        rw [show (n == rd l i) = false by simpa using fun h => c h.symm, Bool.false_or]
        exact ih
  simpa [palingref20_has.f] using key 0 (by omega) (by omega)
theorem makes_spec (x : S36) (l : List S26) (S : List Int) (hl : l.length ≤ 4611686018427387904) (hS : S.length ≤ 4611686018427387904) : Ev (fun k => palingref20_makes.f k x.f0 x.f1 x.f2 x.f3 x.f4 x.f5 x.f6 l S) (makesB l S x) := by
  have hj : ∀ b : Bool, Ev (fun k => palingref20_makes.j0 k S b x.f0 x.f1 x.f2 x.f3 x.f4 x.f5 x.f6) (b && (S.contains x.f3 || S.contains x.f4)) := fun b => by
    cases b with
    | false => exact Ev.step (f := fun _ => some false) (fun k => rfl) (Ev.con rfl)
    | true =>
      refine Ev.step (fun k => rfl) (Ev.bind (has20_spec S x.f3 hS) ?_)
      cases S.contains x.f3 with
      | true => exact Ev.tt (Ev.con rfl)
      | false =>
        refine Ev.ff (Ev.bind (has20_spec S x.f4 hS) (Ev.con ?_))
        simp
  unfold makesB
  by_cases c4 : x.f0 = 4
  · rw [if_pos c4]
    refine Ev.congr (fun k => rfl) (Ev.pos c4 (Ev.bind (area_spec l x.f5 hl) ?_))
    by_cases h : areaIdx l x.f5 < 0
    · exact Ev.pos h (Ev.con (by simp [h]))
    · refine Ev.neg h (Ev.pos (by omega) (Ev.pos ?_ (Ev.con (by simp [h]))))
      rcases scanIdx_lt (σ := Unit) (fun _ => inArea x.f5) (fun _ _ => ()) () l 0 with h' | h'
      · simpa [areaIdx] using h'
      · exact absurd (show areaIdx l x.f5 < 0 by unfold areaIdx; omega) h
  · rw [if_neg c4]
    refine Ev.congr (fun k => rfl) (Ev.neg c4 ?_)
    by_cases c1 : x.f0 = 1
    · rw [if_pos c1]
      exact Ev.pos c1 (Ev.bind (has20_spec S x.f3 hS) (Ev.con rfl))
    · rw [if_neg c1]
      refine Ev.neg c1 ?_
      by_cases c2 : x.f0 = 2
      · rw [if_pos c2]
        refine Ev.pos c2 ?_
        have := hj (x.f0 == 2)
        rw [show (x.f0 == 2) = true by simpa using c2] at this
        simpa [c2] using this
      · rw [if_neg c2]
        refine Ev.neg c2 ?_
        by_cases c3 : x.f0 = 3
        · rw [if_pos c3]
          have := hj (x.f0 == 3)
          rw [show (x.f0 == 3) = true by simpa using c3] at this
          simpa [c3] using this
        · rw [if_neg c3]
          have := hj (x.f0 == 3)
          rw [show (x.f0 == 3) = false by simpa using c3] at this ⊢
          simpa using this
end Go.Proofs.Ytndhhnhhnkkpbaa.PLevelTells
