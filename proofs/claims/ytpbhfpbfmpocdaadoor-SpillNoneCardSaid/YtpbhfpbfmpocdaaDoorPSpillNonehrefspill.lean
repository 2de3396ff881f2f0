import Derived.Test.YtpbhfpbfmpocdaaDoorPSpillNonex0
import Derived.Test.YtpbhfpbfmpocdaaDoorPSpillNonex15
import Derived.Test.YtpbhfpbfmpocdaaDoorPSpillNonehplain0
import Derived.Test.YtpbhfpbfmpocdaaDoorPSpillNonehspillpure
namespace Go.Proofs.YtpbhfpbfmpocdaaDoor.PSpillNone
open Go.RowKit Go.Proofs.YtpbhfpbfmpocdaaDoorW.PrintWords Go.Proofs.YtpbhfpbfmpocdaaDoorW.PrintLast Go.Proofs.YtpbhfpbfmpocdaaDoorW.PrintMore
set_option linter.unusedVariables false
set_option linter.unusedSimpArgs false
/-! The document's slots in plain words. -/
def mOf (l : List S57) : List S45 := l.map fun x => ⟨x.f0, x.f1⟩
theorem mOf_len (l : List S57) : (mOf l).length = l.length := by simp [mOf]
theorem mOf_rd (l : List S57) (i : Int) (i0 : 0 ≤ i) (i1 : i < (l.length : Int)) : rd_T45 (mOf l) i = ⟨(rd_T57 l i).f0, (rd_T57 l i).f1⟩ := by
  unfold rd_T45 rd_T57 mOf
  rw [List.getD_eq_getElem?_getD, List.getElem?_map, List.getD_eq_getElem?_getD, List.getElem?_eq_getElem (by omega)]
  rfl
theorem rdP21_drop (l : List S57) (i : Int) (h0 : 0 ≤ i) (h : i < l.length) : l.drop i.toNat = rd_T57 l i :: l.drop (i + 1).toNat := by
  rw [show (i + 1).toNat = i.toNat + 1 by omega, List.drop_eq_getElem_cons (by omega)]
  congr 1
  unfold rd_T57
  rw [List.getD_eq_getElem?_getD, List.getElem?_eq_getElem (by omega)]; rfl
theorem places_spec (l : List S57) (hl : l.length ≤ 100000) : Ev (fun k => palinglaw22_places.f k l) (mOf l) := by
  have key : ∀ i : Int, 0 ≤ i → i ≤ l.length → ∀ acc : List S45, acc.length ≤ i.toNat → Ev (fun k => palinglaw22_places.l0 k l acc i) (acc ++ mOf (l.drop i.toNat)) := by
    refine up_ind ?_ ?_
    · intro acc _
      rw [List.drop_eq_nil_of_le (by omega)]
      exact Ev.step (fun k => rfl) (Ev.neg (by omega) (Ev.con (by simp [mOf])))
    · intro i i0 i1 ih acc ha
      have hw : wrap64 (i + 1) = i + 1 := wrap_up i0 i1 (by omega)
      rw [rdP21_drop l i i0 i1]
      have := ih (acc ++ [⟨(rd_T57 l i).f0, (rd_T57 l i).f1⟩]) (by rw [List.length_append, List.length_singleton]; omega)
      rw [← hw, List.append_assoc] at this
      rw [hw] at this
      refine Ev.step (fun k => rfl) (Ev.pos i1 (Ev.pos i0 (Ev.pos (by omega) ?_)))
      rw [hw]
      exact this
  have := key 0 (by omega) (by omega) [] (by simp)
  exact Ev.congr (fun k => rfl) this
theorem has22_spec (L : List Int) (x : Int) (hL : L.length ≤ 1000000) : Ev (fun k => palingref22_has.f k L x) (L.contains x) := by
  have key : ∀ i : Int, 0 ≤ i → i ≤ L.length → Ev (fun k => palingref22_has.l0 k L x i) ((L.drop i.toNat).contains x) := by
    refine up_ind ?_ ?_
    · rw [List.drop_eq_nil_of_le (by omega)]
      exact Ev.step (fun k => rfl) (Ev.neg (by omega) (Ev.con (by simp)))
    · intro i i0 i1 ih
      have hw : wrap64 (i + 1) = i + 1 := wrap_up i0 i1 (by omega)
      rw [getD_drop L 0 i.toNat (by omega), show L.getD i.toNat 0 = rd L i from rfl, show i.toNat + 1 = (i + 1).toNat by omega, List.contains_cons]
      refine Ev.step (fun k => rfl) (Ev.pos i1 (Ev.pos i0 ?_))
      by_cases h : rd L i = x
      · refine Ev.pos h (Ev.con ?_)
        rw [h]; simp
      · refine Ev.neg h ?_
        rw [hw, show (x == rd L i) = false from beq_eq_false_iff_ne.2 (fun e => h e.symm), Bool.false_or]
        exact ih
  simpa [palingref22_has.f] using key 0 (by omega) (by omega)
theorem refslots_spec (l : List S57) (s : List Int) (hl : l.length ≤ 100000) (hs : s.length ≤ 100000) : Ev (fun k => palingref22_Slots.f k l s) (cntN s (spilledOf (mOf l)), cntS s (spilledOf (mOf l))) := by
  have key : ∀ i : Int, 0 ≤ i → i ≤ l.length → ∀ a b : Int, 0 ≤ a → a ≤ i → 0 ≤ b → b ≤ i → Ev (fun k => palingref22_Slots.l0 k l s a b i) (a + cntN s (spilledOf (mOf (l.drop i.toNat))), b + cntS s (spilledOf (mOf (l.drop i.toNat)))) := by
    refine up_ind ?_ ?_
    · intro a b _ _ _ _
      rw [List.drop_eq_nil_of_le (by omega)]
      exact Ev.step (fun k => rfl) (Ev.neg (by omega) (Ev.con (by simp [mOf, spilledOf, cntN, cntS])))
    · intro i i0 i1 ih a b a0 a1 b0 b1
      have hw : wrap64 (i + 1) = i + 1 := wrap_up i0 i1 (by omega)
      rw [rdP21_drop l i i0 i1, show mOf (rd_T57 l i :: l.drop (i + 1).toNat) = ⟨(rd_T57 l i).f0, (rd_T57 l i).f1⟩ :: mOf (l.drop (i + 1).toNat) from rfl, spilledOf_cons]
      refine Ev.step (fun k => rfl) (Ev.pos i1 (Ev.pos i0 ?_))
      by_cases c : (rd_T57 l i).f1 < 0
      · rw [if_pos c, cntN_cons, cntS_cons]
        refine Ev.pos c (Ev.bind (has22_spec s _ (by omega)) ?_)
        by_cases h : s.contains (rd_T57 l i).f0 = true
        · rw [h, if_pos rfl, if_pos rfl]
          refine Ev.step (f := fun k => palingref22_Slots.l0 k l s a (wrap64 (b + 1)) (wrap64 (i + 1))) (fun k => rfl) ?_
          rw [hw, wrap_in (x := b + 1) (by omega) (by omega)]
          have := ih a (b + 1) (by omega) (by omega) (by omega) (by omega)
          rw [show a + (0 + cntN s (spilledOf (mOf (l.drop (i + 1).toNat)))) = a + cntN s (spilledOf (mOf (l.drop (i + 1).toNat))) by omega, show b + (1 + cntS s (spilledOf (mOf (l.drop (i + 1).toNat)))) = b + 1 + cntS s (spilledOf (mOf (l.drop (i + 1).toNat))) by omega]
          exact this
        · rw [if_neg h, if_neg h, show s.contains (rd_T57 l i).f0 = false by simpa using h]
          refine Ev.step (f := fun k => if 0 ≤ i then (if i < (l.length : Int) then (if (rd_T57 l i).f1 < 0 then palingref22_Slots.l0 k l s (wrap64 (a + 1)) b (wrap64 (i + 1)) else palingref22_Slots.l0 k l s a b (wrap64 (i + 1))) else none) else none) (fun k => rfl) (Ev.pos i0 (Ev.pos i1 (Ev.pos c ?_)))
          rw [hw, wrap_in (x := a + 1) (by omega) (by omega)]
          have := ih (a + 1) b (by omega) (by omega) (by omega) (by omega)
          rw [show b + (0 + cntS s (spilledOf (mOf (l.drop (i + 1).toNat)))) = b + cntS s (spilledOf (mOf (l.drop (i + 1).toNat))) by omega, show a + (1 + cntN s (spilledOf (mOf (l.drop (i + 1).toNat)))) = a + 1 + cntN s (spilledOf (mOf (l.drop (i + 1).toNat))) by omega]
          exact this
      · rw [if_neg c]
        refine Ev.neg c (Ev.step (f := fun k => if 0 ≤ i then (if i < (l.length : Int) then (if (rd_T57 l i).f1 < 0 then palingref22_Slots.l0 k l s (wrap64 (a + 1)) b (wrap64 (i + 1)) else palingref22_Slots.l0 k l s a b (wrap64 (i + 1))) else none) else none) (fun k => rfl) (Ev.pos i0 (Ev.pos i1 (Ev.neg c ?_))))
        rw [hw]
        exact ih a b (by omega) (by omega) (by omega) (by omega)
  have := key 0 (by omega) (by omega) 0 0 (by omega) (by omega) (by omega) (by omega)
  refine Ev.congr (f := fun k => palingref22_Slots.l0 k l s 0 0 0) (fun k => rfl) ?_
  simpa using this
end Go.Proofs.YtpbhfpbfmpocdaaDoor.PSpillNone
