import Derived.Test.YtpbhfpbfmpocdaaDoorPSpillNonex0
import Derived.Test.YtpbhfpbfmpocdaaDoorPSpillNonex2
import Derived.Test.YtpbhfpbfmpocdaaDoorPSpillNonex3
import Derived.Test.YtpbhfpbfmpocdaaDoorPSpillNonehplain0
import Derived.Test.YtpbhfpbfmpocdaaDoorPSpillNonehplaces
import Derived.Test.YtpbhfpbfmpocdaaDoorPSpillNonehspillslots
namespace Go.Proofs.YtpbhfpbfmpocdaaDoor.PSpillNone
open Go.RowKit Go.Proofs.YtpbhfpbfmpocdaaDoorW.PrintWords Go.Proofs.YtpbhfpbfmpocdaaDoorW.PrintLast Go.Proofs.YtpbhfpbfmpocdaaDoorW.PrintMore
set_option linter.unusedVariables false
set_option linter.unusedSimpArgs false
/-! What the program's slots are, in plain words. -/
theorem rd_drop (l : List Int) (i : Int) (h0 : 0 ≤ i) (h : i < l.length) : l.drop i.toNat = rd l i :: l.drop (i + 1).toNat := by
  rw [show (i + 1).toNat = i.toNat + 1 by omega, List.drop_eq_getElem_cons (by omega)]
  congr 1
  unfold rd
  rw [List.getD_eq_getElem?_getD, List.getElem?_eq_getElem (by omega)]; rfl
theorem rdP_drop (l : List S45) (i : Int) (h0 : 0 ≤ i) (h : i < l.length) : l.drop i.toNat = rd_T45 l i :: l.drop (i + 1).toNat := by
  rw [show (i + 1).toNat = i.toNat + 1 by omega, List.drop_eq_getElem_cons (by omega)]
  congr 1
  unfold rd_T45
  rw [List.getD_eq_getElem?_getD, List.getElem?_eq_getElem (by omega)]; rfl
theorem rdP_take (l : List S45) (i : Int) (h0 : 0 ≤ i) (h : i < l.length) : l.take (i + 1).toNat = l.take i.toNat ++ [rd_T45 l i] := by
  rw [show (i + 1).toNat = i.toNat + 1 by omega, List.take_add_one, List.getElem?_eq_getElem (by omega)]
  congr 1
  unfold rd_T45
  rw [List.getD_eq_getElem?_getD, List.getElem?_eq_getElem (by omega)]; rfl
theorem index_spec (l : List Int) (a : Int) (hl : l.length ≤ 4611686018427387904) : ∃ r : Int, Ev (fun k => slices_Index_int_int.f k l a) r ∧ (decide (r ≥ 0)) = l.contains a := by
  suffices key : ∀ i : Int, 0 ≤ i → i ≤ l.length → ∃ r : Int, Ev (fun k => slices_Index_int_int.l0 k l a (l.length : Int) i) r ∧ (decide (r ≥ 0)) = (l.drop i.toNat).contains a by
    simpa [slices_Index_int_int.f] using key 0 (by omega) (by omega)
  refine up_ind ?_ ?_
  · refine ⟨-1, Ev.step (fun k => rfl) (Ev.neg (by omega) (Ev.con rfl)), ?_⟩
    rw [List.drop_eq_nil_of_le (by omega)]; rfl
  · intro i h0 h1 ⟨r, hr, hd⟩
    rw [rd_drop l i h0 h1, List.contains_cons]
    by_cases hq : a = rd l i
    · refine ⟨i, Ev.step (fun k => rfl) (Ev.pos h1 (Ev.pos h0 (Ev.pos h1 (Ev.pos hq (Ev.con rfl))))), ?_⟩
      rw [show (a == rd l i) = true by simpa using hq, Bool.true_or]
      simpa using h0
    · refine ⟨r, Ev.step (fun k => rfl) (Ev.pos h1 (Ev.pos h0 (Ev.pos h1 (Ev.neg hq ?_)))), ?_⟩
      · rw [wrap_up h0 h1 hl]; exact hr
      · rw [show (a == rd l i) = false by simpa using hq, Bool.false_or]; exact hd
theorem contains_spec (l : List Int) (a : Int) (hl : l.length ≤ 4611686018427387904) : Ev (fun k => slices_Contains_int_int.f k l a) (l.contains a) := by
  obtain ⟨r, hr, hd⟩ := index_spec l a hl
  unfold slices_Contains_int_int.f
  refine Ev.bind hr (Ev.con ?_)
  rw [hd]
def spilledOf (l : List S45) : List Int := (l.filter (fun x => decide (x.f1 < 0))).map (·.f0)
theorem spilledOf_cons (x : S45) (l : List S45) : spilledOf (x :: l) = if x.f1 < 0 then x.f0 :: spilledOf l else spilledOf l := by
  unfold spilledOf
  by_cases h : x.f1 < 0
  · simp [h]
  · simp [h]
theorem spilledOf_len (l : List S45) : (spilledOf l).length ≤ l.length := by
  unfold spilledOf
  rw [List.length_map]
  exact List.length_filter_le _ _
theorem spilled_spec (l : List S45) (hl : l.length ≤ 1000000) : Ev (fun k => alloc_Spilled.f k l) (spilledOf l) := by
  have key : ∀ i : Int, 0 ≤ i → i ≤ l.length → ∀ o : List Int, o.length ≤ 1000000 + i.toNat → Ev (fun k => alloc_Spilled.l0 k o l (l.length : Int) i) (o ++ spilledOf (l.drop i.toNat)) := by
    refine up_ind ?_ ?_
    · intro o ho
      rw [List.drop_eq_nil_of_le (by omega)]
      exact Ev.step (fun k => rfl) (Ev.neg (by omega) (Ev.con (by simp [spilledOf])))
    · intro i h0 h1 ih o ho
      rw [rdP_drop l i h0 h1, spilledOf_cons]
      refine Ev.step (fun k => rfl) (Ev.pos h1 (Ev.pos h0 (Ev.pos h1 ?_)))
      rw [wrap_up h0 h1 (by omega)]
      by_cases hq : (rd_T45 l i).f1 < 0
      · rw [if_pos hq]
        refine Ev.pos hq (Ev.pos (by omega) ?_)
        have := ih (o ++ [(rd_T45 l i).f0]) (by simp; omega)
        rw [List.append_assoc] at this
        exact this
      · rw [if_neg hq]
        exact Ev.neg hq (ih o (by omega))
  simpa [alloc_Spilled.f] using key 0 (by omega) (by omega) [] (by simp)
def cntS (s sp : List Int) : Int := ((sp.filter (fun r => s.contains r)).length : Int)
def cntN (s sp : List Int) : Int := ((sp.filter (fun r => !s.contains r)).length : Int)
theorem cntS_cons (s : List Int) (r : Int) (sp : List Int) : cntS s (r :: sp) = (if s.contains r = true then 1 else 0) + cntS s sp := by
  unfold cntS
  rw [List.filter_cons]
  by_cases h : s.contains r = true
  · rw [if_pos h, if_pos h, List.length_cons]; omega
  · rw [if_neg h, if_neg h]; omega
theorem cntN_cons (s : List Int) (r : Int) (sp : List Int) : cntN s (r :: sp) = (if s.contains r = true then 0 else 1) + cntN s sp := by
  unfold cntN
  rw [List.filter_cons]
  by_cases h : s.contains r = true
  · rw [if_pos h, if_neg (by rw [h]; simp)]; omega
  · rw [if_neg h, if_pos (by simpa using h), List.length_cons]; omega
theorem cnt_bd (s sp : List Int) : 0 ≤ cntS s sp ∧ cntS s sp ≤ sp.length ∧ 0 ≤ cntN s sp ∧ cntN s sp ≤ sp.length := by
  have h1 := List.length_filter_le (fun r => s.contains r) sp
  have h2 := List.length_filter_le (fun r => !s.contains r) sp
  unfold cntS cntN
  omega
theorem slots_spec (l : List S45) (s : List Int) (hl : l.length ≤ 1000000) (hs : s.length ≤ 4611686018427387904) : Ev (fun k => spill_Slots.f k l s) (cntN s (spilledOf l), cntS s (spilledOf l)) := by
  have hsp := spilledOf_len l
  have key : ∀ i : Int, 0 ≤ i → i ≤ (spilledOf l).length → ∀ a b : Int, 0 ≤ a → a ≤ 1000000 + i → 0 ≤ b → b ≤ 1000000 + i → Ev (fun k => spill_Slots.l0 k s (spilledOf l) a b i) (a + cntN s ((spilledOf l).drop i.toNat), b + cntS s ((spilledOf l).drop i.toNat)) := by
    refine up_ind ?_ ?_
    · intro a b _ _ _ _
      rw [List.drop_eq_nil_of_le (by omega)]
      exact Ev.step (fun k => rfl) (Ev.neg (by omega) (Ev.con (by simp [cntN, cntS])))
    · intro i h0 h1 ih a b a0 a1 b0 b1
      rw [rd_drop _ i h0 h1, cntN_cons, cntS_cons]
      refine Ev.step (fun k => rfl) (Ev.pos h1 (Ev.bind (contains_spec s _ hs) ?_))
      rw [wrap_up h0 h1 (by omega)]
      cases s.contains (rd (spilledOf l) i) with
      | true =>
        refine Ev.tt ?_
        rw [wrap_in (x := b + 1) (by omega) (by omega)]
        have := ih a (b + 1) (by omega) (by omega) (by omega) (by omega)
        simp only [if_true]
        rw [show a + (0 + cntN s ((spilledOf l).drop (i + 1).toNat)) = a + cntN s ((spilledOf l).drop (i + 1).toNat) by omega, show b + (1 + cntS s ((spilledOf l).drop (i + 1).toNat)) = b + 1 + cntS s ((spilledOf l).drop (i + 1).toNat) by omega]
        exact this
      | false =>
        refine Ev.ff ?_
        rw [wrap_in (x := a + 1) (by omega) (by omega)]
        have := ih (a + 1) b (by omega) (by omega) (by omega) (by omega)
        simp only [Bool.false_eq_true, if_false]
        rw [show b + (0 + cntS s ((spilledOf l).drop (i + 1).toNat)) = b + cntS s ((spilledOf l).drop (i + 1).toNat) by omega, show a + (1 + cntN s ((spilledOf l).drop (i + 1).toNat)) = a + 1 + cntN s ((spilledOf l).drop (i + 1).toNat) by omega]
        exact this
  unfold spill_Slots.f
  refine Ev.bind (spilled_spec l hl) ?_
  simpa using key 0 (by omega) (by omega) 0 0 (by omega) (by omega) (by omega) (by omega)
theorem scan_first {α : Type} (p : α → Bool) : ∀ (l : List α) (i k : Nat) (z : α), i < l.length → p (l.getD i z) = true → (∀ j, j < i → p (l.getD j z) = false) → (scanIdx (σ := Unit) (fun _ => p) (fun _ _ => ()) () l k).1 = ((k + i : Nat) : Int)
  | [], i, k, z, h, _, _ => by simp at h
  | x :: xs, 0, k, z, _, h, _ => by
    unfold scanIdx
    rw [if_pos (by simpa using h)]; rfl
  | x :: xs, i + 1, k, z, hl, h, hj => by
    unfold scanIdx
    have h0 := hj 0 (by omega)
    rw [if_neg (by simpa using h0), scan_first p xs i (k + 1) z (by simpa using hl) (by simpa using h) (fun j hjl => by simpa using hj (j + 1) (by omega))]
    congr 1; omega
theorem word_j0 (k : Nat) (l : List S45) (s : List Int) (r i p q : Int) : spill_Word.j0 (k + 1) l s r i false p q = (if 0 ≤ i then (if i ≤ (l.length : Int) then ((spill_Slots.f k (l.take i.toNat) s).bind fun b => (slices_Contains_int_int.f k s r).bind fun c => if c = true then some (wrap64 (q + b.2)) else some (wrap64 (p + b.1))) else none) else none) := rfl
/-- the word of what stands at place i, if it is the first of its name -/
theorem word_spec (l : List S45) (s : List Int) (p q : Int) (i : Nat) (hi : i < l.length) (hl : l.length ≤ 1000000) (hs : s.length ≤ 4611686018427387904) (hp : 0 ≤ p ∧ p ≤ 1000000000) (hq : 0 ≤ q ∧ q ≤ 1000000000)
    (hf : ∀ j, j < i → (rd_T45 l j).f0 ≠ (rd_T45 l i).f0) :
    Ev (fun k => spill_Word.f k l s p q (rd_T45 l i).f0) (if (rd_T45 l i).f1 ≥ 0 then -1 else if s.contains (rd_T45 l i).f0 = true then q + cntS s (spilledOf (l.take i)) else p + cntN s (spilledOf (l.take i))) := by
  have hfind : findIdx l (rd_T45 l i).f0 = (i : Int) := by
    unfold findIdx
    rw [scan_first (fun x => x.f0 == (rd_T45 l i).f0) l i 0 z45 hi (by show (_ == _) = true; simp [rd_T45]) (fun j hj => by
      have := hf j hj
      simpa [rd_T45] using this)]
    congr 1; omega
  have hfd : spill_find.f l (rd_T45 l i).f0 = some (i : Int) := by unfold spill_find.f; rw [if_pos (by omega), hfind]
  unfold spill_Word.f
  refine Ev.bind (Ev.con hfd) (Ev.neg (by omega) (Ev.pos (by omega) (Ev.pos (by omega) ?_)))
  by_cases h1 : (rd_T45 l i).f1 ≥ 0
  · rw [if_pos h1, decide_eq_true h1]
    exact Ev.step (f := fun _ => some (-1)) (fun k => rfl) (Ev.con rfl)
  · rw [if_neg h1, decide_eq_false h1]
    have hb := cnt_bd s (spilledOf (l.take i))
    have hb2 := spilledOf_len (l.take i)
    have hb3 : (l.take i).length ≤ 1000000 := by simp; omega
    refine Ev.step (fun k => word_j0 k _ _ _ _ _ _) ?_
    refine Ev.pos (by omega) (Ev.pos (by omega) (Ev.bind (slots_spec (l.take (i : Int).toNat) s (by simp; omega) hs) (Ev.bind (contains_spec s _ hs) ?_)))
    rw [Int.toNat_natCast]
    cases s.contains (rd_T45 l i).f0 with
    | true => exact Ev.tt (Ev.con (by rw [if_pos rfl, wrap_in (by simp only []; omega) (by simp only []; omega)]))
    | false => exact Ev.ff (Ev.con (by rw [if_neg (by simp), wrap_in (by simp only []; omega) (by simp only []; omega)]))
end Go.Proofs.YtpbhfpbfmpocdaaDoor.PSpillNone
