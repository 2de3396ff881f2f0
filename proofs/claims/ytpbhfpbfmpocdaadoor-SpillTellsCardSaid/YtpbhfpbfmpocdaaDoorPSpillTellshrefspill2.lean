import Derived.Test.YtpbhfpbfmpocdaaDoorPSpillTellsx0
import Derived.Test.YtpbhfpbfmpocdaaDoorPSpillTellsx3
import Derived.Test.YtpbhfpbfmpocdaaDoorPSpillTellsx15
import Derived.Test.YtpbhfpbfmpocdaaDoorPSpillTellsx16
import Derived.Test.YtpbhfpbfmpocdaaDoorPSpillTellsx17
import Derived.Test.YtpbhfpbfmpocdaaDoorPSpillTellsx18
import Derived.Test.YtpbhfpbfmpocdaaDoorPSpillTellshplain0
import Derived.Test.YtpbhfpbfmpocdaaDoorPSpillTellshputspec
import Derived.Test.YtpbhfpbfmpocdaaDoorPSpillTellshref11
import Derived.Test.YtpbhfpbfmpocdaaDoorPSpillTellshrefspill
import Derived.Test.YtpbhfpbfmpocdaaDoorPSpillTellshplaces
import Derived.Test.YtpbhfpbfmpocdaaDoorPSpillTellshspillcode
import Derived.Test.YtpbhfpbfmpocdaaDoorPSpillTellshspillput2
import Derived.Test.YtpbhfpbfmpocdaaDoorPSpillTellshuses
namespace Go.Proofs.YtpbhfpbfmpocdaaDoor.PSpillTells
open Go.RowKit Go.Proofs.YtpbhfpbfmpocdaaDoorW.PrintWords Go.Proofs.YtpbhfpbfmpocdaaDoorW.PrintLast Go.Proofs.YtpbhfpbfmpocdaaDoorW.PrintMore
set_option linter.unusedVariables false
set_option linter.unusedSimpArgs false
/-! The document's words and code in plain words. -/
theorem mOf_take (l : List S57) (i : Nat) : mOf (l.take i) = (mOf l).take i := by simp [mOf]
theorem reffind_spec (l : List S57) (r : Int) (hl : l.length ≤ 100000) : Ev (fun k => palingref22_find.f k l r) (findIdx (mOf l) r) := by
  have key : ∀ i : Int, 0 ≤ i → i ≤ l.length → Ev (fun k => palingref22_find.l0 k l r i) ((scanIdx (σ := Unit) (fun _ x => x.f0 == r) (fun _ _ => ()) () (mOf (l.drop i.toNat)) i.toNat).1) := by
    refine up_ind ?_ ?_
    · rw [List.drop_eq_nil_of_le (by omega)]
      exact Ev.step (fun k => rfl) (Ev.neg (by omega) (Ev.con rfl))
    · intro i i0 i1 ih
      have hw : wrap64 (i + 1) = i + 1 := wrap_up i0 i1 (by omega)
      rw [rdP21_drop l i i0 i1, show mOf (rd_T57 l i :: l.drop (i + 1).toNat) = ⟨(rd_T57 l i).f0, (rd_T57 l i).f1⟩ :: mOf (l.drop (i + 1).toNat) from rfl]
      unfold scanIdx
      refine Ev.step (fun k => rfl) (Ev.pos i1 (Ev.pos i0 ?_))
      by_cases h : (rd_T57 l i).f0 = r
      · rw [if_pos (by simpa using h)]
        exact Ev.pos h (Ev.con (by rw [show ((i.toNat : Nat) : Int) = i by omega]))
      · rw [if_neg (by simpa using h)]
        refine Ev.neg h ?_
        rw [hw, show i.toNat + 1 = (i + 1).toNat by omega]
        exact ih
  have := key 0 (by omega) (by omega)
  exact Ev.congr (fun k => rfl) this
theorem refword_spec (l : List S57) (s : List Int) (p q r : Int) (hl : l.length ≤ 100000) (hs : s.length ≤ 100000) : Ev (fun k => palingref22_Word.f k l s p q r) (wordOf (mOf l) s p q r) := by
  obtain ⟨h0, h1, _⟩ := idx_bd (mOf l) r
  rw [mOf_len] at h1
  have hfd := reffind_spec l r hl
  unfold wordOf
  by_cases c0 : findIdx (mOf l) r < 0
  · rw [if_pos c0]
    exact Ev.congr (fun k => rfl) (Ev.bind hfd (Ev.pos c0 (Ev.step (f := fun _ => some (-1)) (fun k => rfl) (Ev.now _))))
  rw [if_neg c0]
  refine Ev.congr (fun k => rfl) (Ev.bind hfd (Ev.neg c0 (Ev.pos (by omega) (Ev.pos h1 ?_))))
  have hrd : (rd_T45 (mOf l) (findIdx (mOf l) r)).f1 = (rd_T57 l (findIdx (mOf l) r)).f1 := by rw [mOf_rd l _ (by omega) h1]
  rw [hrd]
  by_cases c1 : (rd_T57 l (findIdx (mOf l) r)).f1 ≥ 0
  · rw [if_pos c1, decide_eq_true c1]
    exact Ev.step (f := fun _ => some (-1)) (fun k => rfl) (Ev.now _)
  · rw [if_neg c1, decide_eq_false c1]
    have hsl := refslots_spec (l.take (findIdx (mOf l) r).toNat) s (by simp; omega) hs
    rw [mOf_take] at hsl
    refine Ev.step (f := fun k => if 0 ≤ findIdx (mOf l) r then (if findIdx (mOf l) r ≤ (l.length : Int) then ((palingref22_Slots.f k (l.take (findIdx (mOf l) r).toNat) s).bind fun bt => (palingref22_has.f k s r).bind fun t => if t = true then some (wrap64 (q + bt.2)) else some (wrap64 (p + bt.1))) else none) else none) (fun k => rfl) ?_
    refine Ev.pos (by omega) (Ev.pos (by omega) (Ev.bind hsl (Ev.bind (has22_spec s _ (by omega)) ?_)))
    cases s.contains r with
    | true => exact Ev.tt (Ev.con (by rw [if_pos rfl]))
    | false => exact Ev.ff (Ev.con (by rw [if_neg (by simp)]))
theorem refw_spec (l : List S57) (s : List Int) (p q r : Int) (hl : l.length ≤ 100000) (hs : s.length ≤ 100000) : Ev (fun k => palingref22_word.f k l s p q r) (wordOf (mOf l) s p q r) :=
  Ev.congr (f := fun k => (palingref22_Word.f k l s p q r).bind fun t => some t) (fun k => rfl) (Ev.bind (refword_spec l s p q r hl hs) (Ev.now _))
/-- a machine's register, as the document finds it -/
theorem reffind_reg (l : List S57) (r : Int) (hi : 0 ≤ findIdx (mOf l) r) : 0 ≤ findIdx (mOf l) r ∧ findIdx (mOf l) r < (l.length : Int) ∧ (rd_T57 l (findIdx (mOf l) r)).f1 = regOf (mOf l) r := by
  obtain ⟨_, h1, _⟩ := idx_bd (mOf l) r
  rw [mOf_len] at h1
  refine ⟨hi, h1, ?_⟩
  unfold regOf
  rw [mOf_rd l _ hi h1]
theorem refone_spec (l : List S57) (s : List Int) (p q : Int) (hl : l.length ≤ 100000) (hs : s.length ≤ 100000) (x : S48) (hA : rdA x.f0 = true → 0 ≤ x.f3 → 0 ≤ findIdx (mOf l) x.f3) (hB : rdB x.f0 = true → 0 ≤ x.f4 ∧ 0 ≤ findIdx (mOf l) x.f4) (hD : 0 ≤ defL x → 0 ≤ findIdx (mOf l) (defL x)) :
    Ev (fun k => palingref22_one.f k x.f0 x.f1 x.f2 x.f3 x.f4 x.f5 x.f6 l s p q) (putL (mOf l) s p q x) := by
  have hu := uses_spec x
  obtain ⟨_, hum, hul⟩ := usesL_spec x
  obtain ⟨ra, hra⟩ : ∃ z, z = readL (mOf l) s p q (rdA x.f0) x.f3 13 := ⟨_, rfl⟩
  obtain ⟨rb, hrb⟩ : ∃ z, z = readL (mOf l) s p q (rdB x.f0) x.f4 14 := ⟨_, rfl⟩
  have hla : ra.1.length ≤ 1 := by rw [hra]; exact readL_len _ _ _ _ _ _ _
  have hlb : rb.1.length ≤ 1 := by rw [hrb]; exact readL_len _ _ _ _ _ _ _
  have hput : putL (mOf l) s p q x = (ra.1 ++ rb.1) ++ (if defL x < 0 then [⟨x.f0, x.f1, x.f2, ra.2, rb.2, x.f5, x.f6⟩] else if wordOf (mOf l) s p q (defL x) < 0 then [⟨x.f0, x.f1, regOf (mOf l) (defL x), ra.2, rb.2, x.f5, x.f6⟩]
    else (if x.f0 = 3 then [loadI 15 (wordOf (mOf l) s p q (defL x))] else []) ++ [⟨x.f0, x.f1, 15, ra.2, rb.2, x.f5, x.f6⟩, storeI (wordOf (mOf l) s p q (defL x))]) := by rw [hra, hrb, List.append_assoc]; rfl
  rw [hput]
  have hd := def_spec x
  -- the end
  have J3 : Ev (fun k => palingref22_one.j3 k (ra.1 ++ rb.1) x.f0 x.f1 x.f2 x.f3 x.f4 x.f5 x.f6 l s p q x.f0 x.f1 x.f2 ra.2 rb.2 x.f5 x.f6) ((ra.1 ++ rb.1) ++ (if defL x < 0 then [⟨x.f0, x.f1, x.f2, ra.2, rb.2, x.f5, x.f6⟩] else if wordOf (mOf l) s p q (defL x) < 0 then [⟨x.f0, x.f1, regOf (mOf l) (defL x), ra.2, rb.2, x.f5, x.f6⟩]
    else (if x.f0 = 3 then [loadI 15 (wordOf (mOf l) s p q (defL x))] else []) ++ [⟨x.f0, x.f1, 15, ra.2, rb.2, x.f5, x.f6⟩, storeI (wordOf (mOf l) s p q (defL x))])) := by
    have hlen : (ra.1 ++ rb.1).length ≤ 2 := by rw [List.length_append]; omega
    obtain ⟨o, ho⟩ : ∃ o, o = ra.1 ++ rb.1 := ⟨_, rfl⟩
    rw [← ho] at hlen ⊢
    by_cases c0 : defL x < 0
    · rw [if_pos c0]
      exact Ev.step (fun k => rfl) (Ev.bind hd (Ev.pos c0 (Ev.pos (by omega) (Ev.now _))))
    rw [if_neg c0]
    obtain ⟨i0, i1, ir⟩ := reffind_reg l (defL x) (hD (by omega))
    by_cases c1 : wordOf (mOf l) s p q (defL x) < 0
    · rw [if_pos c1]
      rw [← ir]
      exact Ev.step (fun k => rfl) (Ev.bind hd (Ev.neg c0 (Ev.bind (refw_spec l s p q (defL x) hl hs) (Ev.pos c1 (Ev.bind (reffind_spec l (defL x) hl) (Ev.pos i0 (Ev.pos i1 (Ev.pos (by omega) (Ev.now _)))))))))
    rw [if_neg c1]
    by_cases c3 : x.f0 = 3
    · rw [if_pos c3]
      refine Ev.step (fun k => rfl) (Ev.bind hd (Ev.neg c0 (Ev.bind (refw_spec l s p q (defL x) hl hs) (Ev.neg c1 (Ev.pos c3 (Ev.pos (by omega) (Ev.bind (Ev.con rfl) (Ev.pos (by simp; omega) (Ev.bind (Ev.con rfl) (Ev.pos (by simp; omega) (Ev.con ?_)))))))))))
      simp [loadI, storeI]
    · rw [if_neg c3]
      refine Ev.step (fun k => rfl) (Ev.bind hd (Ev.neg c0 (Ev.bind (refw_spec l s p q (defL x) hl hs) (Ev.neg c1 (Ev.neg c3 (Ev.pos (by omega) (Ev.bind (Ev.con rfl) (Ev.pos (by simp; omega) (Ev.con ?_)))))))))
      simp [storeI]
  have Bt : ∀ r, Ev (fun k => (palingref22_word.f k l s p q x.f4).bind fun w_ => (if w_ ≥ 0 then (if ra.1.length < 2513169434916 then palingref22_one.j3 k (ra.1 ++ [(⟨4, 0, 14, (-1), 0, w_, 0⟩ : S48)]) x.f0 x.f1 x.f2 x.f3 x.f4 x.f5 x.f6 l s p q x.f0 x.f1 x.f2 ra.2 14 x.f5 x.f6 else none) else ((palingref22_find.f k l x.f4).bind fun i_ => (if 0 ≤ i_ then (if i_ < (l.length : Int) then palingref22_one.j3 k ra.1 x.f0 x.f1 x.f2 x.f3 x.f4 x.f5 x.f6 l s p q x.f0 x.f1 x.f2 ra.2 (rd_T57 l i_).f1 x.f5 x.f6 else none) else none)))) r → Ev (fun k => palingref22_one.j2 k ra.1 true x.f0 x.f1 x.f2 x.f3 x.f4 x.f5 x.f6 l s p q x.f0 x.f1 x.f2 ra.2 x.f4 x.f5 x.f6) r := fun r h => Ev.step (fun k => rfl) h
  have Bf : ∀ r, Ev (fun k => palingref22_one.j3 k ra.1 x.f0 x.f1 x.f2 x.f3 x.f4 x.f5 x.f6 l s p q x.f0 x.f1 x.f2 ra.2 x.f4 x.f5 x.f6) r → Ev (fun k => palingref22_one.j2 k ra.1 false x.f0 x.f1 x.f2 x.f3 x.f4 x.f5 x.f6 l s p q x.f0 x.f1 x.f2 ra.2 x.f4 x.f5 x.f6) r := fun r h => Ev.step (fun k => rfl) h
  have At : ∀ r, Ev (fun k => (palingref22_word.f k l s p q x.f3).bind fun w_ => (if w_ ≥ 0 then (if ([] : List S48).length < 2513169434916 then palingref22_one.j1 k ([] ++ [(⟨4, 0, 13, (-1), 0, w_, 0⟩ : S48)]) x.f0 x.f1 x.f2 x.f3 x.f4 x.f5 x.f6 l s p q x.f0 x.f1 x.f2 13 x.f4 x.f5 x.f6 else none) else ((palingref22_find.f k l x.f3).bind fun i_ => (if 0 ≤ i_ then (if i_ < (l.length : Int) then palingref22_one.j1 k [] x.f0 x.f1 x.f2 x.f3 x.f4 x.f5 x.f6 l s p q x.f0 x.f1 x.f2 (rd_T57 l i_).f1 x.f4 x.f5 x.f6 else none) else none)))) r → Ev (fun k => palingref22_one.j0 k [] true x.f0 x.f1 x.f2 x.f3 x.f4 x.f5 x.f6 l s p q x.f0 x.f1 x.f2 x.f3 x.f4 x.f5 x.f6) r := fun r h => Ev.step (fun k => rfl) h
  have Af : ∀ r, Ev (fun k => palingref22_one.j1 k [] x.f0 x.f1 x.f2 x.f3 x.f4 x.f5 x.f6 l s p q x.f0 x.f1 x.f2 x.f3 x.f4 x.f5 x.f6) r → Ev (fun k => palingref22_one.j0 k [] false x.f0 x.f1 x.f2 x.f3 x.f4 x.f5 x.f6 l s p q x.f0 x.f1 x.f2 x.f3 x.f4 x.f5 x.f6) r := fun r h => Ev.step (fun k => rfl) h
  -- B
  have J2 : Ev (fun k => palingref22_one.j1 k ra.1 x.f0 x.f1 x.f2 x.f3 x.f4 x.f5 x.f6 l s p q x.f0 x.f1 x.f2 ra.2 x.f4 x.f5 x.f6) ((ra.1 ++ rb.1) ++ (if defL x < 0 then [⟨x.f0, x.f1, x.f2, ra.2, rb.2, x.f5, x.f6⟩] else if wordOf (mOf l) s p q (defL x) < 0 then [⟨x.f0, x.f1, regOf (mOf l) (defL x), ra.2, rb.2, x.f5, x.f6⟩]
    else (if x.f0 = 3 then [loadI 15 (wordOf (mOf l) s p q (defL x))] else []) ++ [⟨x.f0, x.f1, 15, ra.2, rb.2, x.f5, x.f6⟩, storeI (wordOf (mOf l) s p q (defL x))])) := by
    by_cases cb : rdB x.f0 = true
    · obtain ⟨b0, bi⟩ := hB cb
      obtain ⟨i0, i1, ir⟩ := reffind_reg l x.f4 bi
      have inner : Ev (fun k => palingref22_one.j2 k ra.1 true x.f0 x.f1 x.f2 x.f3 x.f4 x.f5 x.f6 l s p q x.f0 x.f1 x.f2 ra.2 x.f4 x.f5 x.f6) ((ra.1 ++ rb.1) ++ (if defL x < 0 then [⟨x.f0, x.f1, x.f2, ra.2, rb.2, x.f5, x.f6⟩] else if wordOf (mOf l) s p q (defL x) < 0 then [⟨x.f0, x.f1, regOf (mOf l) (defL x), ra.2, rb.2, x.f5, x.f6⟩]
    else (if x.f0 = 3 then [loadI 15 (wordOf (mOf l) s p q (defL x))] else []) ++ [⟨x.f0, x.f1, 15, ra.2, rb.2, x.f5, x.f6⟩, storeI (wordOf (mOf l) s p q (defL x))])) := by
        by_cases cw : wordOf (mOf l) s p q x.f4 < 0
        · have e : rb = ([], regOf (mOf l) x.f4) := by rw [hrb]; unfold readL; rw [if_pos ⟨cb, b0⟩, if_pos cw]
          rw [e] at J3 ⊢
          rw [List.append_nil] at J3 ⊢
          refine Bt _ (Ev.bind (refw_spec l s p q x.f4 hl hs) (Ev.neg (by omega) (Ev.bind (reffind_spec l x.f4 hl) (Ev.pos i0 (Ev.pos i1 ?_)))))
          rw [ir]
          exact J3
        · have e : rb = ([loadI 14 (wordOf (mOf l) s p q x.f4)], 14) := by rw [hrb]; unfold readL; rw [if_pos ⟨cb, b0⟩, if_neg cw]
          rw [e] at J3 ⊢
          exact Bt _ (Ev.bind (refw_spec l s p q x.f4 hl hs) (Ev.pos (by omega) (Ev.pos (by omega) J3)))
      by_cases k2 : x.f0 = 2
      · exact Ev.step (fun k => rfl) (Ev.pos k2 inner)
      · by_cases k3 : x.f0 = 3
        · exact Ev.step (fun k => rfl) (Ev.neg k2 (Ev.pos k3 inner))
        · have k5 : (x.f0 == 5) = true := by
            unfold rdB at cb
            simp only [Bool.or_eq_true, beq_iff_eq] at cb
            simp only [beq_iff_eq]
            omega
          refine Ev.step (fun k => rfl) (Ev.neg k2 (Ev.neg k3 ?_))
          rw [k5]
          exact inner
    · have e : rb = ([], x.f4) := by rw [hrb]; unfold readL; rw [if_neg (fun hh => cb hh.1)]
      have hk : x.f0 ≠ 2 ∧ x.f0 ≠ 3 ∧ x.f0 ≠ 5 := by
        unfold rdB at cb
        simp only [Bool.or_eq_true, beq_iff_eq] at cb
        omega
      rw [e] at J3 ⊢
      rw [List.append_nil] at J3 ⊢
      refine Ev.step (fun k => rfl) (Ev.neg hk.1 (Ev.neg hk.2.1 ?_))
      rw [show (x.f0 == 5) = false from beq_eq_false_iff_ne.2 hk.2.2]
      exact Bf _ J3
  -- A
  have hfA : fA x.f0 = rdA x.f0 := by
    unfold fA rdA
    rw [Bool.eq_iff_iff]
    simp only [Bool.or_eq_true, beq_iff_eq]
    omega
  have skip : ra = ([], x.f3) → Ev (fun k => palingref22_one.j0 k [] false x.f0 x.f1 x.f2 x.f3 x.f4 x.f5 x.f6 l s p q x.f0 x.f1 x.f2 x.f3 x.f4 x.f5 x.f6) ((ra.1 ++ rb.1) ++ (if defL x < 0 then [⟨x.f0, x.f1, x.f2, ra.2, rb.2, x.f5, x.f6⟩] else if wordOf (mOf l) s p q (defL x) < 0 then [⟨x.f0, x.f1, regOf (mOf l) (defL x), ra.2, rb.2, x.f5, x.f6⟩]
    else (if x.f0 = 3 then [loadI 15 (wordOf (mOf l) s p q (defL x))] else []) ++ [⟨x.f0, x.f1, 15, ra.2, rb.2, x.f5, x.f6⟩, storeI (wordOf (mOf l) s p q (defL x))])) := fun e => by
    rw [e] at J2 ⊢
    exact Af _ J2
  by_cases ca : rdA x.f0 = true ∧ 0 ≤ x.f3
  · obtain ⟨i0, i1, ir⟩ := reffind_reg l x.f3 (hA ca.1 ca.2)
    have k0 : x.f0 ≠ 0 := by
      have := ca.1
      unfold rdA at this
      simp only [Bool.or_eq_true, beq_iff_eq] at this
      omega
    have hin : (usesL x).contains x.f3 = true := List.contains_iff_mem.2 ((hum x.f3).2 ⟨ca.2, .inr (.inl ⟨hfA.trans ca.1, rfl⟩)⟩)
    have hh := has22_spec (usesL x) x.f3 (by omega)
    rw [hin] at hh
    refine Ev.congr (fun k => rfl) (Ev.bind hu (Ev.neg k0 (Ev.pos ca.2 (Ev.bind hh ?_))))
    by_cases cw : wordOf (mOf l) s p q x.f3 < 0
    · have e : ra = ([], regOf (mOf l) x.f3) := by rw [hra]; unfold readL; rw [if_pos ca, if_pos cw]
      rw [e] at J2 ⊢
      refine At _ (Ev.bind (refw_spec l s p q x.f3 hl hs) (Ev.neg (by omega) (Ev.bind (reffind_spec l x.f3 hl) (Ev.pos i0 (Ev.pos i1 ?_)))))
      rw [ir]
      exact J2
    · have e : ra = ([loadI 13 (wordOf (mOf l) s p q x.f3)], 13) := by rw [hra]; unfold readL; rw [if_pos ca, if_neg cw]
      rw [e] at J2 ⊢
      exact At _ (Ev.bind (refw_spec l s p q x.f3 hl hs) (Ev.pos (by omega) (Ev.pos (by simp) J2)))
  · have e : ra = ([], x.f3) := by rw [hra]; unfold readL; rw [if_neg ca]
    have hsk := skip e
    by_cases k0 : x.f0 = 0
    · exact Ev.congr (fun k => rfl) (Ev.bind hu (Ev.pos k0 hsk))
    · by_cases c3 : x.f3 ≥ 0
      · have hnin : (usesL x).contains x.f3 = true → False := fun hc => by
          have hnA : ¬ rdA x.f0 = true := fun h => ca ⟨h, c3⟩
          rcases (hum x.f3).1 (List.contains_iff_mem.1 hc) with ⟨_, h | h | h⟩
          · exact hnA (by unfold rdA; simp [h.1])
          · exact hnA (hfA ▸ h.1)
          · refine hnA ?_
            have := h.1
            unfold fB at this
            unfold rdA
            simp only [Bool.or_eq_true, beq_iff_eq] at this ⊢
            omega
        have hf : (usesL x).contains x.f3 = false := by
          cases hh : (usesL x).contains x.f3 with
          | false => rfl
          | true => exact (hnin hh).elim
        have hh := has22_spec (usesL x) x.f3 (by omega)
        rw [hf] at hh
        exact Ev.congr (fun k => rfl) (Ev.bind hu (Ev.neg k0 (Ev.pos c3 (Ev.bind hh hsk))))
      · exact Ev.congr (fun k => rfl) (Ev.bind hu (Ev.neg k0 (Ev.neg c3 hsk)))
theorem fixTo_eta (y : S48) (h : ¬ (y.f0 = 6 ∨ y.f0 = 7)) (ats : List Int) : fixTo ats y = y := by unfold fixTo; rw [if_neg h]
theorem refcode_spec (l : List S57) (s : List Int) (p q : Int) (hl : l.length ≤ 100000) (hs : s.length ≤ 100000) (c : List S48) (hc : c.length ≤ 1000)
    (h : ∀ x ∈ c, (rdA x.f0 = true → 0 ≤ x.f3 → 0 ≤ findIdx (mOf l) x.f3) ∧ (rdB x.f0 = true → 0 ≤ x.f4 ∧ 0 ≤ findIdx (mOf l) x.f4) ∧ (0 ≤ defL x → 0 ≤ findIdx (mOf l) (defL x))) (hT : ∀ x ∈ c, 0 ≤ x.f6 ∧ x.f6 < (c.length : Int)) :
    Ev (fun k => palingref22_Code.f k c l s p q) ((allL (mOf l) s p q c).map (fixTo (atsL (mOf l) s p q c 0))) := by
  obtain ⟨ats, hats⟩ : ∃ ats, ats = atsL (mOf l) s p q c 0 := ⟨_, rfl⟩
  have hal : ats.length = c.length := by rw [hats]; exact atsL_len _ _ _ _ _ _
  have hok := fix_ok (m := mOf l) (s := s) (p := p) (q := q) hal hT
  obtain ⟨D, hD⟩ : ∃ D, D = allL (mOf l) s p q c := ⟨_, rfl⟩
  rw [← hD] at hok
  have hDl : D.length ≤ 5 * c.length := by
    rw [hD]
    have : ∀ c : List S48, (allL (mOf l) s p q c).length ≤ 5 * c.length := by
      intro c
      induction c with
      | nil => simp [allL]
      | cons x c ih =>
        have := putL_len (mOf l) s p q x
        rw [show allL (mOf l) s p q (x :: c) = putL (mOf l) s p q x ++ allL (mOf l) s p q c from rfl, List.length_append, List.length_cons]
        omega
    exact this c
  -- the second loop
  have fix : ∀ i : Int, 0 ≤ i → i ≤ D.length → Ev (fun k => palingref22_Code.l1 k ((D.take i.toNat).map (fixTo ats) ++ D.drop i.toNat) ats i) (D.map (fixTo ats)) := by
    refine up_ind ?_ ?_
    · have e : (D.take ((D.length : Nat) : Int).toNat).map (fixTo ats) ++ D.drop ((D.length : Nat) : Int).toNat = D.map (fixTo ats) := by
        rw [Int.toNat_natCast, List.take_length, List.drop_length, List.append_nil]
      rw [e]
      exact Ev.step (fun k => rfl) (Ev.neg (by rw [List.length_map]; omega) (Ev.now _))
    · intro i i0 i1 ih
      have hw : wrap64 (i + 1) = i + 1 := wrap_up i0 i1 (by omega)
      have hil : i.toNat < D.length := by omega
      obtain ⟨y, hy⟩ : ∃ y, y = D[i.toNat] := ⟨_, rfl⟩
      have hym : y ∈ D := by rw [hy]; exact List.getElem_mem hil
      have hdrop : D.drop i.toNat = y :: D.drop (i + 1).toNat := by
        rw [List.drop_eq_getElem_cons hil, ← hy, show (i + 1).toNat = i.toNat + 1 by omega]
      have htake : D.take (i + 1).toNat = D.take i.toNat ++ [y] := by
        rw [show (i + 1).toNat = i.toNat + 1 by omega, List.take_add_one, List.getElem?_eq_getElem hil, hy]; rfl
      rw [htake, List.map_append] at ih
      obtain ⟨P, hP⟩ : ∃ P, P = (D.take i.toNat).map (fixTo ats) := ⟨_, rfl⟩
      have hPl : P.length = i.toNat := by rw [hP, List.length_map, List.length_take]; omega
      rw [hdrop, ← hP]
      rw [← hP] at ih
      have hlen : ((P ++ y :: D.drop (i + 1).toNat).length : Int) = (D.length : Int) := by
        rw [List.length_append, List.length_cons, List.length_drop]; omega
      have hrd : rd_T48 (P ++ y :: D.drop (i + 1).toNat) i = y := by
        unfold rd_T48
        rw [List.getD_eq_getElem?_getD, List.getElem?_append_right (by omega), hPl, Nat.sub_self]; rfl
      have hset : ∀ z, (P ++ y :: D.drop (i + 1).toNat).set i.toNat z = P ++ [z] ++ D.drop (i + 1).toNat := fun z => by
        rw [List.set_append_right _ _ (by omega), hPl, Nat.sub_self]; simp
      have hoky := hok y hym
      have go : ∀ (z : S48), z = fixTo ats y → Ev (fun k => palingref22_Code.l1 k (P ++ [z] ++ D.drop (i + 1).toNat) ats (wrap64 (i + 1))) (D.map (fixTo ats)) := fun z hz => by
        rw [hz, hw]
        exact ih
      by_cases c6 : y.f0 = 6
      · have hr : 0 ≤ y.f6 ∧ y.f6 < (ats.length : Int) := by
          unfold fixOK at hoky
          rw [c6] at hoky
          simpa using hoky
        have := go ⟨y.f0, y.f1, y.f2, y.f3, y.f4, y.f5, rd ats y.f6⟩ (by unfold fixTo; rw [if_pos (.inl c6)])
        rw [← hset] at this
        refine Ev.step (fun k => rfl) (Ev.pos (by omega) (Ev.pos i0 (Ev.pos (by rw [hrd]; exact c6) (Ev.pos (by rw [hrd]; exact hr.1) (Ev.pos (by rw [hrd]; exact hr.2) ?_)))))
        rw [hrd]
        exact this
      · by_cases c7 : y.f0 = 7
        · have hr : 0 ≤ y.f6 ∧ y.f6 < (ats.length : Int) := by
            unfold fixOK at hoky
            rw [c7] at hoky
            simpa using hoky
          have := go ⟨y.f0, y.f1, y.f2, y.f3, y.f4, y.f5, rd ats y.f6⟩ (by unfold fixTo; rw [if_pos (.inr c7)])
          rw [← hset] at this
          refine Ev.step (fun k => rfl) (Ev.pos (by omega) (Ev.pos i0 (Ev.neg (by rw [hrd]; exact c6) (Ev.pos (by rw [hrd]; exact c7) (Ev.pos (by rw [hrd]; exact hr.1) (Ev.pos (by rw [hrd]; exact hr.2) ?_))))))
          rw [hrd]
          exact this
        · have := go y (fixTo_eta y (fun hh => hh.elim c6 c7) ats).symm
          rw [List.append_assoc] at this
          exact Ev.step (fun k => rfl) (Ev.pos (by omega) (Ev.pos i0 (Ev.neg (by rw [hrd]; exact c6) (Ev.neg (by rw [hrd]; exact c7) this))))
  -- the first loop
  have main : ∀ i : Int, 0 ≤ i → i ≤ c.length → ∀ (out : List S48) (az : List Int), out ++ allL (mOf l) s p q (c.drop i.toNat) = D → az ++ atsL (mOf l) s p q (c.drop i.toNat) (out.length : Int) = ats → Ev (fun k => palingref22_Code.l0 k c out az i l s p q) (D.map (fixTo ats)) := by
    refine up_ind ?_ ?_
    · intro out az ho ha
      rw [Int.toNat_natCast, List.drop_length] at ho ha
      rw [show allL (mOf l) s p q [] = [] from rfl, List.append_nil] at ho
      rw [show atsL (mOf l) s p q [] (out.length : Int) = [] from rfl, List.append_nil] at ha
      subst ho ha
      have := fix 0 (by omega) (by omega)
      exact Ev.step (fun k => rfl) (Ev.neg (by omega) this)
    · intro i i0 i1 ih out az ho ha
      have hw : wrap64 (i + 1) = i + 1 := wrap_up i0 i1 (by omega)
      have hil : i.toNat < c.length := by omega
      obtain ⟨x, hx⟩ : ∃ x, x = rd_T48 c i := ⟨_, rfl⟩
      have hxe : c[i.toNat] = x := by
        rw [hx]; unfold rd_T48
        rw [List.getD_eq_getElem?_getD, List.getElem?_eq_getElem hil]; rfl
      have hxm : x ∈ c := by rw [← hxe]; exact List.getElem_mem hil
      rw [List.drop_eq_getElem_cons hil, hxe, show i.toNat + 1 = (i + 1).toNat by omega] at ho ha
      rw [show allL (mOf l) s p q (x :: c.drop (i + 1).toNat) = putL (mOf l) s p q x ++ allL (mOf l) s p q (c.drop (i + 1).toNat) from rfl, ← List.append_assoc] at ho
      rw [atsL] at ha
      obtain ⟨hA, hB, hDd⟩ := h x hxm
      have hpl := putL_len (mOf l) s p q x
      have hol : out.length + (putL (mOf l) s p q x).length ≤ D.length := by rw [← ho, List.length_append, List.length_append]; omega
      have hasl : az.length ≤ ats.length := by rw [← ha, List.length_append]; omega
      have := ih (out ++ putL (mOf l) s p q x) (az ++ [(out.length : Int)]) ho (by
        rw [List.append_assoc, List.length_append]
        rw [← ha]
        congr 2)
      rw [← hw] at this
      rw [hw] at this
      have ho1 := refone_spec l s p q hl hs x hA hB hDd
      refine Ev.step (f := fun k => if i < (c.length : Int) then (if az.length < 17592186044416 then (if 0 ≤ i then ((palingref22_one.f k x.f0 x.f1 x.f2 x.f3 x.f4 x.f5 x.f6 l s p q).bind fun t => (if out.length + t.length < 2513169434916 then palingref22_Code.l0 k c (out ++ t) (az ++ [(out.length : Int)]) (wrap64 (i + 1)) l s p q else none)) else none) else none) else palingref22_Code.l1 k out az 0) (fun k => by rw [hx]; rfl) (Ev.pos i1 (Ev.pos (by omega) (Ev.pos i0 (Ev.bind ho1 (Ev.pos (by omega) ?_)))))
      rw [hw]
      exact this
  rw [← hats, ← hD]
  exact Ev.congr (fun k => rfl) (main 0 (by omega) (by omega) [] [] (by rw [hD]; rfl) (by rw [hats]; rfl))
theorem same13_spec (a : List S48) (ha : a.length ≤ 1000000) : Ev (fun k => palingref13_Same.f k a a) true := by
  have main : ∀ i : Int, 0 ≤ i → i ≤ a.length → Ev (fun k => palingref13_Same.l0 k a a i) true := by
    refine up_ind ?_ ?_
    · exact Ev.step (fun k => rfl) (Ev.neg (by omega) (Ev.now _))
    · intro i i0 i1 ih
      have hw : wrap64 (i + 1) = i + 1 := wrap_up i0 i1 (by omega)
      rw [← hw] at ih
      exact Ev.step (fun k => rfl) (Ev.pos i1 (Ev.pos i0 (Ev.pos i1 (Ev.neg (by simp) ih))))
  exact Ev.congr (fun k => rfl) (Ev.pos rfl (main 0 (by omega) (by omega)))
end Go.Proofs.YtpbhfpbfmpocdaaDoor.PSpillTells
