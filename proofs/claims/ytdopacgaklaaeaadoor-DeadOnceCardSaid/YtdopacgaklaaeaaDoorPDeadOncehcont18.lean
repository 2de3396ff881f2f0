import Derived.Test.YtdopacgaklaaeaaDoorPDeadOncex0
import Derived.Test.YtdopacgaklaaeaaDoorPDeadOncex3
import Derived.Test.YtdopacgaklaaeaaDoorPDeadOncex5
import Derived.Test.YtdopacgaklaaeaaDoorPDeadOncehplain0
namespace Go.Proofs.YtdopacgaklaaeaaDoor.PDeadOnce
open Go.RowKit Go.Proofs.YtdopacgaklaaeaaDoorW.PrintWords Go.Proofs.YtdopacgaklaaeaaDoorW.PrintLast Go.Proofs.YtdopacgaklaaeaaDoorW.PrintMore
set_option linter.unusedVariables false
set_option linter.unusedSimpArgs false
/-! slices.Contains of whole numbers and of marks, in plain words. -/
theorem rd_drop18 (l : List Int) (i : Int) (h0 : 0 ≤ i) (h : i < l.length) : l.drop i.toNat = rd l i :: l.drop (i + 1).toNat := by
  rw [show (i + 1).toNat = i.toNat + 1 by omega, List.drop_eq_getElem_cons (by omega)]
  congr 1
  unfold rd
  rw [List.getD_eq_getElem?_getD, List.getElem?_eq_getElem (by omega)]; rfl
theorem rdB_drop18 (l : List Bool) (i : Int) (h0 : 0 ≤ i) (h : i < l.length) : l.drop i.toNat = rdOf false l i :: l.drop (i + 1).toNat := by
  rw [show (i + 1).toNat = i.toNat + 1 by omega, List.drop_eq_getElem_cons (by omega)]
  congr 1
  unfold rdOf
  rw [List.getD_eq_getElem?_getD, List.getElem?_eq_getElem (by omega)]; rfl
theorem index18 (l : List Int) (a : Int) (hl : l.length ≤ 4611686018427387904) : ∃ r : Int, Ev (fun k => slices_Index_int_int.f k l a) r ∧ (decide (r ≥ 0)) = l.contains a := by
  suffices key : ∀ i : Int, 0 ≤ i → i ≤ l.length → ∃ r : Int, Ev (fun k => slices_Index_int_int.l0 k l a (l.length : Int) i) r ∧ (decide (r ≥ 0)) = (l.drop i.toNat).contains a by
    simpa [slices_Index_int_int.f] using key 0 (by omega) (by omega)
  refine up_ind ?_ ?_
  · refine ⟨-1, Ev.step (fun k => rfl) (Ev.neg (by omega) (Ev.con rfl)), ?_⟩
    rw [List.drop_eq_nil_of_le (by omega)]; rfl
  · intro i h0 h1 ⟨r, hr, hd⟩
    rw [rd_drop18 l i h0 h1, List.contains_cons]
    by_cases hq : a = rd l i
    · refine ⟨i, Ev.step (fun k => rfl) (Ev.pos h1 (Ev.pos h0 (Ev.pos h1 (Ev.pos hq (Ev.con rfl))))), ?_⟩
      rw [show (a == rd l i) = true by simpa using hq, Bool.true_or]
      simpa using h0
    · refine ⟨r, Ev.step (fun k => rfl) (Ev.pos h1 (Ev.pos h0 (Ev.pos h1 (Ev.neg hq ?_)))), ?_⟩
      · rw [wrap_up h0 h1 hl]; exact hr
      · rw [show (a == rd l i) = false by simpa using hq, Bool.false_or]; exact hd
theorem contains18 (l : List Int) (a : Int) (hl : l.length ≤ 4611686018427387904) : Ev (fun k => slices_Contains_int_int.f k l a) (l.contains a) := by
  obtain ⟨r, hr, hd⟩ := index18 l a hl
  unfold slices_Contains_int_int.f
  refine Ev.bind hr (Ev.con ?_)
  rw [hd]
theorem bindex18 (l : List Bool) (a : Bool) (hl : l.length ≤ 4611686018427387904) : ∃ r : Int, Ev (fun k => slices_Index_bool_bool.f k l a) r ∧ (decide (r ≥ 0)) = l.contains a := by
  suffices key : ∀ i : Int, 0 ≤ i → i ≤ l.length → ∃ r : Int, Ev (fun k => slices_Index_bool_bool.l0 k l a (l.length : Int) i) r ∧ (decide (r ≥ 0)) = (l.drop i.toNat).contains a by
    simpa [slices_Index_bool_bool.f] using key 0 (by omega) (by omega)
  refine up_ind ?_ ?_
  · refine ⟨-1, Ev.step (fun k => rfl) (Ev.neg (by omega) (Ev.con rfl)), ?_⟩
    rw [List.drop_eq_nil_of_le (by omega)]; rfl
  · intro i h0 h1 ⟨r, hr, hd⟩
    rw [rdB_drop18 l i h0 h1, List.contains_cons]
    cases hq : (a == rdOf false l i) with
    | true =>
      refine ⟨i, Ev.step (fun k => rfl) (Ev.pos h1 (Ev.pos h0 (Ev.pos h1 (Ev.pos hq (Ev.con rfl))))), ?_⟩
      rw [Bool.true_or]
      simpa using h0
    | false =>
      refine ⟨r, Ev.step (fun k => rfl) (Ev.pos h1 (Ev.pos h0 (Ev.pos h1 (Ev.neg (by rw [hq]; simp) ?_)))), ?_⟩
      · rw [wrap_up h0 h1 hl]; exact hr
      · rw [Bool.false_or]; exact hd
theorem bcontains18 (l : List Bool) (a : Bool) (hl : l.length ≤ 4611686018427387904) : Ev (fun k => slices_Contains_bool_bool.f k l a) (l.contains a) := by
  obtain ⟨r, hr, hd⟩ := bindex18 l a hl
  unfold slices_Contains_bool_bool.f
  refine Ev.bind hr (Ev.con ?_)
  rw [hd]
end Go.Proofs.YtdopacgaklaaeaaDoor.PDeadOnce
