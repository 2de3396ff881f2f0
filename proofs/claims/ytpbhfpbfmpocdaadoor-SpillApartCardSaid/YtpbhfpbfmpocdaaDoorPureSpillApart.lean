/- Slots stand one behind the other, public ones from one word on, secret ones from another one, each for one register; one that stands in a register has none. -/
import Derived.Test.YtpbhfpbfmpocdaaDoorStmSpillApart
import Derived.Test.YtpbhfpbfmpocdaaDoorPSpillApartx5
import Derived.Test.YtpbhfpbfmpocdaaDoorPSpillAparthawake22
import Derived.Test.YtpbhfpbfmpocdaaDoorPSpillAparthpure
import Derived.Test.YtpbhfpbfmpocdaaDoorPSpillAparthspillpure
namespace Go.Proofs.YtpbhfpbfmpocdaaDoor.Pure
open Go.RowKit Go.Proofs.YtpbhfpbfmpocdaaDoor.PSpillApart Go.Proofs.YtpbhfpbfmpocdaaDoorW.PrintWords Go.Proofs.YtpbhfpbfmpocdaaDoorW.PrintLast Go.Proofs.YtpbhfpbfmpocdaaDoorW.PrintMore
set_option linter.unusedVariables false
set_option linter.unusedSimpArgs false
theorem cnt_take (s : List Int) (l : List S45) (i : Int) (h0 : 0 ≤ i) (h : i < l.length) : cntS s (spilledOf (l.take (i + 1).toNat)) = cntS s (spilledOf (l.take i.toNat)) + (if (rd_T45 l i).f1 < 0 ∧ s.contains (rd_T45 l i).f0 = true then 1 else 0) ∧ cntN s (spilledOf (l.take (i + 1).toNat)) = cntN s (spilledOf (l.take i.toNat)) + (if (rd_T45 l i).f1 < 0 ∧ ¬ s.contains (rd_T45 l i).f0 = true then 1 else 0) := by
  rw [rdP_take l i h0 h]
  generalize rd_T45 l i = x
  generalize l.take i.toNat = L
  by_cases h1 : x.f1 < 0
  · cases h2 : s.contains x.f0 <;> simp [spilledOf, cntS, cntN, h1, h2, List.filter_append] <;> simp_all
  · simp [spilledOf, cntS, cntN, h1, List.filter_append]
theorem SpillApart : palinglaw22_SpillApart.Pure := by
  intro l s hl hw hs hws
  suffices h : Ev (fun k => palinglaw22_SpillApart.f k l s) true from h.rounds
  have out : Ev (fun k => palinglaw22_SpillApart.j0 k l s true) true := Ev.step (f := fun _ => some true) (fun k => rfl) (Ev.con rfl)
  refine Ev.congr (fun k => rfl) (Ev.bind awake22 (Ev.tt ?_))
  by_cases c1 : (l.length : Int) > 60
  · exact Ev.pos c1 out
  refine Ev.neg c1 ?_
  by_cases c2 : (s.length : Int) > 60
  · rw [decide_eq_true c2]; exact out
  rw [decide_eq_false c2]
  refine Ev.step (f := fun k => palinglaw22_SpillApart.l0 k l s 0) (fun k => rfl) ?_
  -- the last loop
  have L1 : (∀ a b : Nat, a < b → b < l.length → (rd_T45 l a).f0 < (rd_T45 l b).f0) → ∀ p q : Int, p = cntN s (spilledOf l) → q = cntS s (spilledOf l) → ∀ i : Int, 0 ≤ i → i ≤ l.length → ∀ a b : Int, a = 100 + cntN s (spilledOf (l.take i.toNat)) → b = 300 + cntS s (spilledOf (l.take i.toNat)) → Ev (fun k => palinglaw22_SpillApart.l1 k l s p q a b i 100 300) true := by
    intro hsort p q hp hq
    have hbd := cnt_bd s (spilledOf l)
    have hbl := spilledOf_len l
    refine up_ind ?_ ?_
    · intro a b ha hb
      rw [Int.toNat_natCast, List.take_length] at ha hb
      refine Ev.step (fun k => rfl) (Ev.neg (by omega) ?_)
      rw [wrap_in (x := 100 + p) (by omega) (by omega), wrap_in (x := 300 + q) (by omega) (by omega)]
      exact Ev.pos (by omega) (Ev.con (by congr 1; rw [beq_iff_eq]; omega))
    · intro i h0 h1 ih a b ha hb
      obtain ⟨t1, t2⟩ := cnt_take s l i h0 h1
      have hbt := cnt_bd s (spilledOf (l.take i.toNat))
      have hbl2 := spilledOf_len (l.take i.toNat)
      have hbl3 : (l.take i.toNat).length ≤ 60 := by simp; omega
      have hw := word_spec l s 100 300 i.toNat (by omega) (by omega) (by omega) (by omega) (by omega) (fun j hj => by have := hsort j i.toNat hj (by omega); omega)
      rw [show ((i.toNat : Nat) : Int) = i by omega] at hw
      refine Ev.step (fun k => rfl) (Ev.pos h1 (Ev.pos h0 (Ev.bind hw ?_)))
      rw [wrap_up h0 h1 (by omega)]
      by_cases g1 : (rd_T45 l i).f1 ≥ 0
      · rw [if_pos g1]
        refine Ev.pos g1 (Ev.pos rfl (ih a b ?_ ?_))
        · rw [t2, if_neg (by omega)]; omega
        · rw [t1, if_neg (by omega)]; omega
      · rw [if_neg g1]
        refine Ev.neg g1 ?_
        by_cases g2 : s.contains (rd_T45 l i).f0 = true
        · rw [if_pos g2]
          refine Ev.neg (by omega) (Ev.pos (by omega) ?_)
          rw [wrap_in (x := b + 1) (by omega) (by omega)]
          refine ih a (b + 1) ?_ ?_
          · rw [t2, if_neg (fun h => h.2 g2)]; omega
          · rw [t1, if_pos ⟨by omega, g2⟩]; omega
        · rw [if_neg g2]
          refine Ev.pos (by omega) ?_
          rw [wrap_in (x := a + 1) (by omega) (by omega)]
          refine ih (a + 1) b ?_ ?_
          · rw [t2, if_pos ⟨by omega, g2⟩]; omega
          · rw [t1, if_neg (fun h => g2 h.2)]; omega
  have L0 : ∀ i : Int, 0 ≤ i → i ≤ l.length → (∀ a : Nat, a + 1 < i.toNat → (rd_T45 l a).f0 < (rd_T45 l (a + 1 : Nat)).f0) → Ev (fun k => palinglaw22_SpillApart.l0 k l s i) true := by
    refine up_ind ?_ ?_
    · intro hc
      rw [Int.toNat_natCast] at hc
      refine Ev.step (fun k => rfl) (Ev.neg (by omega) (Ev.bind (slots_spec l s (by omega) (by omega)) ?_))
      refine L1 ?_ _ _ rfl rfl 0 (by omega) (by omega) 100 300 (by simp [spilledOf, cntN]) (by simp [spilledOf, cntS])
      intro a b hab
      induction b with
      | zero => omega
      | succ b ih =>
        intro hb
        have h1 := hc b (by omega)
        by_cases e : a = b
        · subst e; exact h1
        · have := ih (by omega) (by omega); omega
    · intro i h0 h1 ih hc
      refine Ev.step (fun k => rfl) (Ev.pos h1 (Ev.pos h0 ?_))
      rw [wrap_up h0 h1 (by omega)]
      by_cases g1 : (rd_T45 l i).f0 < 0
      · exact Ev.pos g1 (Ev.con rfl)
      refine Ev.neg g1 ?_
      by_cases g2 : i > 0
      · rw [wrap_in (x := i - 1) (by omega) (by omega)]
        refine Ev.pos g2 (Ev.pos (by omega) (Ev.pos (by omega) ?_))
        by_cases g3 : (rd_T45 l i).f0 ≤ (rd_T45 l (i - 1)).f0
        · exact Ev.pos g3 (Ev.con rfl)
        · refine Ev.neg g3 (ih (fun a ha => ?_))
          by_cases e : a + 1 = i.toNat
          · rw [show ((a + 1 : Nat) : Int) = i by omega, show ((a : Nat) : Int) = i - 1 by omega]; omega
          · exact hc a (by omega)
      · refine Ev.neg g2 (ih (fun a ha => by omega))
  exact L0 0 (by omega) (by omega) (fun a ha => by simp at ha)
end Go.Proofs.YtpbhfpbfmpocdaaDoor.Pure
