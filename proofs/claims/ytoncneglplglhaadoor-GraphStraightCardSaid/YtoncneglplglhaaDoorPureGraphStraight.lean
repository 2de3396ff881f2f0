/- Where nothing branches each place is above all behind it, up to the first end, and there is no loop; what is behind that is never come to. -/
import Derived.Test.YtoncneglplglhaaDoorStmGraphStraight
import Derived.Test.YtoncneglplglhaaDoorPGraphStraightx2
import Derived.Test.YtoncneglplglhaaDoorPGraphStraightx4
import Derived.Test.YtoncneglplglhaaDoorPGraphStraighthawake14
import Derived.Test.YtoncneglplglhaaDoorPGraphStraighthforms
import Derived.Test.YtoncneglplglhaaDoorPGraphStraighthgdepth
import Derived.Test.YtoncneglplglhaaDoorPGraphStraighthgdom
import Derived.Test.YtoncneglplglhaaDoorPGraphStraighthgloops
import Derived.Test.YtoncneglplglhaaDoorPGraphStraighthgnext
import Derived.Test.YtoncneglplglhaaDoorPGraphStraighthgreach
import Derived.Test.YtoncneglplglhaaDoorPGraphStraighthgspec
import Derived.Test.YtoncneglplglhaaDoorPGraphStraighthinsnext
import Derived.Test.YtoncneglplglhaaDoorPGraphStraighthpure
import Derived.Test.YtoncneglplglhaaDoorPGraphStraighthway
namespace Go.Proofs.YtoncneglplglhaaDoor.Pure
open Go.RowKit Go.Proofs.YtoncneglplglhaaDoor.PGraphStraight Go.Proofs.YtoncneglplglhaaDoorW.PrintWords Go.Proofs.YtoncneglplglhaaDoorW.PrintLast Go.Proofs.YtoncneglplglhaaDoorW.PrintMore
set_option linter.unusedVariables false
set_option linter.unusedSimpArgs false
theorem ends_tab : ∀ x : Int, 0 ≤ x → x ≤ 13 → (fmB 9 x = true ↔ (x = 12 ∨ x = 13)) := by
  intro x h0 h1
  have h : (List.range 14).all (fun t => fmB 9 (t : Int) == (decide ((t : Int) = 12) || decide ((t : Int) = 13))) = true := by kernel_rfl
  have := List.all_eq_true.1 h x.toNat (by rw [List.mem_range]; omega)
  rw [show ((x.toNat : Nat) : Int) = x by omega] at this
  rw [beq_iff_eq] at this
  rw [this]
  simp
/-- where an instruction that doesn't branch goes to -/
theorem nx_plain (l : List S37) (hl : l.length ≤ 1000) (i : Int) (h0 : 0 ≤ i) (h1 : i < (l.length : Int)) (k0 : 0 ≤ (rd_T37 l i).f0) (k1 : (rd_T37 l i).f0 ≤ 13) (k6 : (rd_T37 l i).f0 ≠ 6) (k7 : (rd_T37 l i).f0 ≠ 7) :
    nxOf l i = if (rd_T37 l i).f0 = 12 ∨ (rd_T37 l i).f0 = 13 then [] else if i + 1 < (l.length : Int) then [i + 1] else [] := by
  have h := graph_next_some l i h0 h1
  unfold graph_next.f ins_Next.f at h
  rw [if_pos ⟨h0, h1⟩, Option.bind_some] at h
  have hw : wrap64 (i + 1) = i + 1 := wrap_up h0 h1 (by omega)
  have ht := ends_tab _ k0 k1
  by_cases he : (rd_T37 l i).f0 = 12 ∨ (rd_T37 l i).f0 = 13
  · rw [if_pos he]
    rw [if_pos (show ¬ (0 ≤ (rd_T37 l i).f0 ∧ (rd_T37 l i).f0 < 14) ∨ fmB 9 (rd_T37 l i).f0 = true from .inr (ht.2 he)), if_pos (by simp)] at h
    exact (Option.some.inj h).symm
  · rw [if_neg he]
    rw [if_neg (show ¬ (¬ (0 ≤ (rd_T37 l i).f0 ∧ (rd_T37 l i).f0 < 14) ∨ fmB 9 (rd_T37 l i).f0 = true) from fun hh => by
      rcases hh with hh | hh
      · exact hh ⟨k0, by omega⟩
      · exact he (ht.1 hh)), if_neg k6, if_neg k7, if_pos (by simp), hw] at h
    rw [← Option.some.inj h]
    unfold inB
    by_cases hn : i + 1 < (l.length : Int)
    · rw [if_pos hn, List.filter_cons, if_pos (by simp; omega)]; rfl
    · rw [if_neg hn, List.filter_cons, if_neg (by simp; omega)]; rfl
structure SInv (l : List S37) (e i : Int) : Prop where
  lo : i ≤ e
  hi : e ≤ (l.length : Int) - 1
  ok : ∀ t, i < t → t < (l.length : Int) → 0 ≤ (rd_T37 l t).f0 ∧ (rd_T37 l t).f0 ≤ 13 ∧ (rd_T37 l t).f0 ≠ 6 ∧ (rd_T37 l t).f0 ≠ 7
  ahead : ∀ t, i < t → t < e → ¬ ((rd_T37 l t).f0 = 12 ∨ (rd_T37 l t).f0 = 13)
  at_ : e = (l.length : Int) - 1 ∨ (i < e ∧ ((rd_T37 l e).f0 = 12 ∨ (rd_T37 l e).f0 = 13))
theorem GraphStraight : palinglaw14_GraphStraight.Pure := by
  intro l hl0 hw0
  suffices h : Ev (fun k => palinglaw14_GraphStraight.f k l) true from h.rounds
  refine Ev.congr (fun k => rfl) (Ev.bind awake14 (Ev.tt ?_))
  by_cases c1 : (l.length : Int) > 40
  · exact Ev.pos c1 (Ev.con rfl)
  refine Ev.neg c1 ?_
  have hw1 : wrap64 ((l.length : Int) - 1) = (l.length : Int) - 1 := wrap_in (by omega) (by omega)
  rw [hw1]
  -- the end, with what is known of the graph
  have fin : ∀ e : Int, SInv l e (-1) → Ev (fun k => (graph_Reach.f k l).bind fun t195 => ((graph_Dominates.f k l).bind fun t198 => ((graph_Depth.f k l).bind fun t201 => ((graph_Preds.f k l).bind fun t204 => (palinglaw14_GraphStraight.l1 k l e t195 t198 t201 t204 0))))) true := by
    intro e hI
    by_cases hn : 0 < l.length
    case neg =>
      have hnil : l = [] := List.eq_nil_of_length_eq_zero (by omega)
      subst hnil
      have hre : Ev (fun k => graph_Reach.f k ([] : List S37)) [] := Ev.con rfl
      have hP := graph_Preds_spec [] (by simp) [] hre rfl
      have hD : Ev (fun k => graph_Dominates.f k ([] : List S37)) [] := Ev.of (graph_Dominates.mono []) (k := 5) (by kernel_rfl)
      have hL : Ev (fun k => graph_Loops.f k ([] : List S37)) [] := Ev.of (graph_Loops.mono []) (k := 5) (by kernel_rfl)
      have hDe := graph_Depth_spec [] (by simp) [] hL (by simp) (by simp)
      refine Ev.bind hre (Ev.bind hD (Ev.bind hDe (Ev.bind hP ?_)))
      refine Ev.step (f := fun k => (graph_Loops.f k ([] : List S37)).bind fun t => some ((t.length : Int) == 0)) (fun k => rfl) ?_
      exact Ev.bind hL (Ev.con rfl)
    have hlen : l.length ≤ 1000 := by omega
    have hlo := hI.lo
    have hhi := hI.hi
    have hat := hI.at_
    have he0 : 0 ≤ e := by omega
    have hs : ∀ i, 0 ≤ i → i ≤ e → nxOf l i = if i < e then [i + 1] else [] := by
      intro i i0 i1
      obtain ⟨k0, k1, k6, k7⟩ := hI.ok i (by omega) (by omega)
      rw [nx_plain l hlen i i0 (by omega) k0 k1 k6 k7]
      by_cases hie : i < e
      · rw [if_pos hie, if_neg (hI.ahead i (by omega) hie), if_pos (by omega)]
      · have : i = e := by omega
        subst this
        rw [if_neg hie]
        rcases hat with h | ⟨_, h⟩
        · split
          · rfl
          · rw [if_neg (by omega)]
        · rw [if_pos h]
    obtain ⟨re, hre, hrel, hway⟩ := graph_Reach_ev l hn hlen
    obtain ⟨D, hD, hsq, hdom⟩ := graph_Dominates_spec l hn hlen
    obtain ⟨b, S, hL, hLS⟩ := graph_Loops_spec l hn hlen
    have hP := graph_Preds_spec l hlen re hre hrel
    have hb : ∀ h, h < l.length → b h = false := by
      intro h hh
      by_cases hbt : b h = true
      · exfalso
        obtain ⟨j, hj, hwj, hm, hd⟩ := (hLS.is h hh).1 hbt
        have hd' := (str_dom he0 hs (by omega)).1 hd
        rw [hs j hj.1 hd'.2] at hm
        split at hm
        · rw [List.mem_singleton] at hm; omega
        · exact absurd hm (by simp)
      · simpa using hbt
    have hLe : loopsOf l.length b S = [] := by
      unfold loopsOf
      rw [List.filter_eq_nil_iff.2 (fun h hh => by rw [hb h (List.mem_range.1 hh)]; simp)]
      rfl
    rw [hLe] at hL
    have hDe := graph_Depth_spec l hlen [] hL (by simp) (by simp)
    have hrei : ∀ i, 0 ≤ i → i < (l.length : Int) → at_ re i = decide (i ≤ e) := by
      intro i i0 i1
      rw [Bool.eq_iff_iff, hway i i0, str_way he0 hs, decide_eq_true_iff]
      omega
    have hdi : ∀ i k, 0 ≤ i → i < (l.length : Int) → 0 ≤ k → k < (l.length : Int) → val D i k = (decide (k ≤ i) && decide (i ≤ e)) := by
      intro i k i0 i1 k0 k1
      rw [Bool.eq_iff_iff, hdom i k i0 i1 k0 k1, str_dom he0 hs k0, Bool.and_eq_true, decide_eq_true_iff, decide_eq_true_iff]
    obtain ⟨P, hPe⟩ : ∃ P, P = predsOf (nxOf l) re l.length := ⟨_, rfl⟩
    rw [← hPe] at hP
    have hPl : P.length = l.length := by rw [hPe]; exact predsOf_len _ _ _
    have hrow : ∀ i : Int, 0 ≤ i → P.getD i.toNat [] = [] ∨ P.getD i.toNat [] = [i - 1] := by
      intro i i0
      have hm : ∀ a ∈ P.getD i.toNat [], a = i - 1 := fun a ha => by
        rw [hPe, predsOf_is (fun i => nxOf_in l i) hway i0] at ha
        obtain ⟨ha0, hw, hin⟩ := ha
        have ha1 := (str_way he0 hs).1 hw
        rw [hs a ha0.1 ha1.2] at hin
        split at hin
        · rw [List.mem_singleton] at hin; omega
        · exact absurd hin (by simp)
      have hp : (P.getD i.toNat []).Pairwise (· < ·) := by
        rw [hPe, predsOf_row (fun i => nxOf_in l i) i i0]
        obtain ⟨nx', hnx'⟩ : ∃ nx' : Int → List Int, nx' = fun a => if at_ re a = true ∧ 0 ≤ a ∧ a < (l.length : Int) then nxOf l a else [] := ⟨_, rfl⟩
        have e : rowOf (nxOf l) re l.length 0 i = rowOf nx' re l.length 0 i := by
          unfold rowOf
          rw [List.flatMap_def, List.flatMap_def]
          congr 1
          refine List.map_congr_left (fun t ht => ?_)
          rw [List.mem_range] at ht
          by_cases hr : at_ re (0 + (t : Int)) = true
          · rw [if_pos hr, if_pos hr, hnx']
            simp only
            rw [if_pos ⟨hr, by omega, by omega⟩]
          · rw [if_neg hr, if_neg hr]
        rw [e]
        refine row_rises (fun a j => ?_) _ _
        rw [hnx']
        simp only
        split
        · rename_i hc
          have := (hrei a hc.2.1 hc.2.2).symm.trans hc.1
          rw [hs a hc.2.1 (by simpa using this)]
          split
          · exact Nat.le_trans List.count_le_length (by simp)
          · simp
        · simp
      match hr : P.getD i.toNat [], hm, hp with
      | [], _, _ => exact .inl rfl
      | [a], hm, _ => exact .inr (by rw [hm a (by simp)])
      | a :: c :: q, hm, hp =>
        have h1 := hm a (by simp)
        have h2 := hm c (by simp)
        have := (List.pairwise_cons.1 hp).1 c (by simp)
        omega
    have hdep : ∀ i : Int, (List.replicate l.length (0 : Int)).getD i.toNat 0 = 0 := fun i => by
      rw [List.getD_eq_getElem?_getD, List.getElem?_replicate]
      split <;> rfl
    have hde0 : depthOf l.length [] = List.replicate l.length 0 := rfl
    rw [hde0] at hDe
    refine Ev.bind hre (Ev.bind hD (Ev.bind hDe (Ev.bind hP ?_)))
    have outer : ∀ i : Int, 0 ≤ i → i ≤ (l.length : Int) → Ev (fun k => palinglaw14_GraphStraight.l1 k l e re D (List.replicate l.length 0) P i) true := by
      refine up_ind (n := l.length) ?_ ?_
      · refine Ev.step (f := fun k => (graph_Loops.f k l).bind fun t => some ((t.length : Int) == 0)) (fun k => ?_) (Ev.bind hL (Ev.con rfl))
        show (if ((l.length : Nat) : Int) < (l.length : Int) then _ else ((graph_Loops.f k l).bind fun t => some ((t.length : Int) == 0))) = _
        rw [if_neg (by omega)]
      · intro i i0 i1 ih
        have hwi : wrap64 (i + 1) = i + 1 := wrap_up i0 i1 (by omega)
        have inner : ∀ m : Int, 0 ≤ m → m ≤ (l.length : Int) → Ev (fun k => palinglaw14_GraphStraight.l2 k l e re D (List.replicate l.length 0) P i m) true := by
          refine up_ind (n := l.length) ?_ ?_
          · refine Ev.step (f := fun k => palinglaw14_GraphStraight.l1 k l e re D (List.replicate l.length 0) P (wrap64 (i + 1))) (fun k => ?_) ?_
            · show (if ((l.length : Nat) : Int) < (l.length : Int) then _ else palinglaw14_GraphStraight.l1 k l e re D (List.replicate l.length 0) P (wrap64 (i + 1))) = _
              rw [if_neg (by omega)]
            · rw [hwi]; exact ih
          · intro m m0 m1 ihm
            have hwm : wrap64 (m + 1) = m + 1 := wrap_up m0 m1 (by omega)
            have hv := hdi i m i0 i1 m0 m1
            refine Ev.step (f := fun k => if m < (l.length : Int) then (if 0 ≤ i then (if i < (D.length : Int) then (if 0 ≤ m then (if m < ((D.getD i.toNat []).length : Int) then (if m ≤ i then (if ((val D i m) != (decide (i ≤ e))) = true then (some false) else (palinglaw14_GraphStraight.l2 k l e re D (List.replicate l.length 0) P i (wrap64 (m + 1)))) else (if ((val D i m) != false) = true then (some false) else (palinglaw14_GraphStraight.l2 k l e re D (List.replicate l.length 0) P i (wrap64 (m + 1))))) else none) else none) else none) else none) else palinglaw14_GraphStraight.l1 k l e re D (List.replicate l.length 0) P (wrap64 (i + 1))) (fun k => rfl) ?_
            refine Ev.pos m1 (Ev.pos i0 (Ev.pos (by rw [hsq.1]; exact i1) (Ev.pos m0 (Ev.pos (by rw [sq_row hsq i0 i1]; exact m1) ?_))))
            rw [hwm, hv]
            by_cases hmi : m ≤ i
            · refine Ev.pos hmi (Ev.neg (by simp [hmi]) ihm)
            · refine Ev.neg hmi (Ev.neg (by simp [hmi]) ihm)
        have nxt : Ev (fun k => palinglaw14_GraphStraight.j3 k l e re D (List.replicate l.length 0) P i false) true := by
          refine Ev.step (f := fun k => palinglaw14_GraphStraight.l2 k l e re D (List.replicate l.length 0) P i 0) (fun k => rfl) (inner 0 (by omega) (by omega))
        refine Ev.step (f := fun k => if i < (l.length : Int) then (if 0 ≤ i then (if i < (re.length : Int) then (if ((at_ re i) != (decide (i ≤ e))) = true then (palinglaw14_GraphStraight.j3 k l e re D (List.replicate l.length 0) P i true) else (if i < ((List.replicate l.length (0 : Int)).length : Int) then (if ((List.replicate l.length (0 : Int)).getD i.toNat 0) = 0 then (if i < (P.length : Int) then (if ((P.getD i.toNat []).length : Int) > 1 then (palinglaw14_GraphStraight.j3 k l e re D (List.replicate l.length 0) P i true) else (if ((P.getD i.toNat []).length : Int) = 1 then (if 0 < ((P.getD i.toNat []).length : Int) then (palinglaw14_GraphStraight.j3 k l e re D (List.replicate l.length 0) P i (((P.getD i.toNat []).getD (0 : Int).toNat 0) != (wrap64 (i - 1)))) else none) else (palinglaw14_GraphStraight.j3 k l e re D (List.replicate l.length 0) P i false))) else none) else (palinglaw14_GraphStraight.j3 k l e re D (List.replicate l.length 0) P i true)) else none)) else none) else none) else ((graph_Loops.f k l).bind fun t => some ((t.length : Int) == 0))) (fun k => rfl) ?_
        refine Ev.pos i1 (Ev.pos i0 (Ev.pos (by rw [hrel]; exact i1) (Ev.neg (by rw [hrei i i0 i1]; simp) (Ev.pos (by rw [List.length_replicate]; exact i1) (Ev.pos (hdep i) (Ev.pos (by rw [hPl]; exact i1) ?_))))))
        have hwd : wrap64 (i - 1) = i - 1 := wrap_in (by omega) (by omega)
        rcases hrow i i0 with hr | hr
        · rw [hr]
          exact Ev.neg (by simp) (Ev.neg (by simp) nxt)
        · rw [hr, hwd]
          refine Ev.neg (by simp) (Ev.pos (by simp) (Ev.pos (by simp) ?_))
          have e1 : (([i - 1] : List Int).getD (0 : Int).toNat 0 != i - 1) = false := by simp
          rw [e1]
          exact nxt
    exact outer 0 (by omega) (by omega)
  -- the way down to the end
  have down : ∀ (d : Nat) (i e : Int), i + 1 = (d : Int) → SInv l e i → Ev (fun k => palinglaw14_GraphStraight.l0 k l e i) true := by
    intro d
    induction d with
    | zero =>
      intro i e hi hI
      have : i = -1 := by omega
      subst this
      refine Ev.step (f := fun k => (graph_Reach.f k l).bind fun t195 => ((graph_Dominates.f k l).bind fun t198 => ((graph_Depth.f k l).bind fun t201 => ((graph_Preds.f k l).bind fun t204 => (palinglaw14_GraphStraight.l1 k l e t195 t198 t201 t204 0))))) (fun k => ?_) (fin e hI)
      simp only [palinglaw14_GraphStraight.l0]
      rw [if_neg (by omega)]
    | succ d ih =>
      intro i e hi hI
      have i0 : 0 ≤ i := by omega
      have i1 : i < (l.length : Int) := by have := hI.lo; have := hI.hi; omega
      have hlo := hI.lo
      have hhi := hI.hi
      have hwd : wrap64 (i - 1) = i - 1 := wrap_in (by omega) (by omega)
      have out : Ev (fun k => palinglaw14_GraphStraight.j1 k l e i true) true := Ev.step (f := fun _ => some true) (fun k => rfl) (Ev.con rfl)
      refine Ev.step (fun k => rfl) (Ev.pos i0 (Ev.pos i0 (Ev.pos i1 ?_)))
      by_cases k6 : (rd_T37 l i).f0 = 6
      · exact Ev.pos k6 out
      refine Ev.neg k6 ?_
      by_cases k7 : (rd_T37 l i).f0 = 7
      · exact Ev.pos k7 out
      refine Ev.neg k7 ?_
      by_cases k0 : (rd_T37 l i).f0 < 0
      · exact Ev.pos k0 out
      refine Ev.neg k0 ?_
      by_cases k13 : (rd_T37 l i).f0 > 13
      · rw [decide_eq_true k13]; exact out
      rw [decide_eq_false k13]
      have hok : ∀ t, i - 1 < t → t < (l.length : Int) → 0 ≤ (rd_T37 l t).f0 ∧ (rd_T37 l t).f0 ≤ 13 ∧ (rd_T37 l t).f0 ≠ 6 ∧ (rd_T37 l t).f0 ≠ 7 := fun t h0 h1 => by
        by_cases e : t = i
        · subst e; exact ⟨by omega, by omega, k6, k7⟩
        · exact hI.ok t (by omega) h1
      have stop : ((rd_T37 l i).f0 = 12 ∨ (rd_T37 l i).f0 = 13) → Ev (fun k => palinglaw14_GraphStraight.l0 k l i (wrap64 (i - 1))) true := fun hk => by
        rw [hwd]
        exact ih (i - 1) i (by omega) ⟨by omega, by omega, hok, fun t h0 h1 => by omega, .inr ⟨by omega, hk⟩⟩
      refine Ev.step (f := fun k => if 0 ≤ i then (if i < (l.length : Int) then (if (rd_T37 l i).f0 = 13 then (palinglaw14_GraphStraight.l0 k l i (wrap64 (i - 1))) else (if (rd_T37 l i).f0 = 12 then (palinglaw14_GraphStraight.l0 k l i (wrap64 (i - 1))) else (palinglaw14_GraphStraight.l0 k l e (wrap64 (i - 1))))) else none) else none) (fun k => rfl) ?_
      refine Ev.pos i0 (Ev.pos i1 ?_)
      by_cases c13 : (rd_T37 l i).f0 = 13
      · exact Ev.pos c13 (stop (.inr c13))
      refine Ev.neg c13 ?_
      by_cases c12 : (rd_T37 l i).f0 = 12
      · exact Ev.pos c12 (stop (.inl c12))
      refine Ev.neg c12 ?_
      rw [hwd]
      refine ih (i - 1) e (by omega) ⟨by omega, hhi, hok, fun t h0 h1 => ?_, ?_⟩
      · by_cases e' : t = i
        · subst e'; exact fun hh => hh.elim c12 c13
        · exact hI.ahead t (by omega) h1
      · rcases hI.at_ with h | ⟨h, h'⟩
        · exact .inl h
        · exact .inr ⟨by omega, h'⟩
  exact down l.length ((l.length : Int) - 1) ((l.length : Int) - 1) (by omega) ⟨by omega, by omega, fun t h0 h1 => by omega, fun t h0 h1 => by omega, .inl rfl⟩
end Go.Proofs.YtoncneglplglhaaDoor.Pure
