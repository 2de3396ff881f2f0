/- What is above what is above something is above it; the first place is above all that can be come to; the first place of a loop is above all of it; only from places that can be come to can others be. -/
import Derived.Test.YtoncneglplglhaaDoorStmGraphAbove
import Derived.Test.YtoncneglplglhaaDoorPGraphAbovex2
import Derived.Test.YtoncneglplglhaaDoorPGraphAbovex4
import Derived.Test.YtoncneglplglhaaDoorPGraphAbovehawake14
import Derived.Test.YtoncneglplglhaaDoorPGraphAbovehgdom
import Derived.Test.YtoncneglplglhaaDoorPGraphAbovehgloops
import Derived.Test.YtoncneglplglhaaDoorPGraphAbovehgreach
import Derived.Test.YtoncneglplglhaaDoorPGraphAbovehgspec
import Derived.Test.YtoncneglplglhaaDoorPGraphAbovehpure
import Derived.Test.YtoncneglplglhaaDoorPGraphAbovehway
namespace Go.Proofs.YtoncneglplglhaaDoor.Pure
open Go.RowKit Go.Proofs.YtoncneglplglhaaDoor.PGraphAbove Go.Proofs.YtoncneglplglhaaDoorW.PrintWords Go.Proofs.YtoncneglplglhaaDoorW.PrintLast Go.Proofs.YtoncneglplglhaaDoorW.PrintMore
set_option linter.unusedVariables false
set_option linter.unusedSimpArgs false
theorem loops_in {nx : Int → List Int} {n : Nat} {b : Nat → Bool} {S : Nat → List Bool} (h : LoopS nx n b S) : ∀ r ∈ loopsOf n b S, ∃ q, q < n ∧ b q = true ∧ r = memb (S q) := by
  intro r hr
  unfold loopsOf at hr
  obtain ⟨q, hq, rfl⟩ := List.mem_map.1 hr
  obtain ⟨h1, h2⟩ := List.mem_filter.1 hq
  exact ⟨q, List.mem_range.1 h1, h2, rfl⟩
theorem GraphAbove : palinglaw14_GraphAbove.Pure := by
  intro l hl0 hw0
  suffices h : Ev (fun k => palinglaw14_GraphAbove.f k l) true from h.rounds
  refine Ev.congr (fun k => rfl) (Ev.bind awake14 (Ev.tt ?_))
  have out : Ev (fun k => palinglaw14_GraphAbove.j0 k l true) true := Ev.step (f := fun _ => some true) (fun k => rfl) (Ev.con rfl)
  by_cases c1 : (l.length : Int) > 40
  · exact Ev.pos c1 out
  refine Ev.neg c1 ?_
  by_cases c2 : l.length = 0
  · rw [show ((l.length : Int) == 0) = true by simp [c2]]; exact out
  rw [show ((l.length : Int) == 0) = false from beq_eq_false_iff_ne.2 (by omega)]
  have hn : 0 < l.length := by omega
  have hlen : l.length ≤ 1000 := by omega
  obtain ⟨re, hre, hrel, hway⟩ := graph_Reach_ev l hn hlen
  obtain ⟨D, hD, hsq, hdom⟩ := graph_Dominates_spec l hn hlen
  obtain ⟨b, S, hL, hLS⟩ := graph_Loops_spec l hn hlen
  have hP := graph_Preds_spec l hlen re hre hrel
  have hin := nxOf_in l
  obtain ⟨P, hPe⟩ : ∃ P, P = predsOf (nxOf l) re l.length := ⟨_, rfl⟩
  rw [← hPe] at hP
  have hPl : P.length = l.length := by rw [hPe]; exact predsOf_len _ _ _
  obtain ⟨L, hLe⟩ : ∃ L, L = loopsOf l.length b S := ⟨_, rfl⟩
  rw [← hLe] at hL
  have hrw := loops_in hLS
  rw [← hLe] at hrw
  have hLl : L.length ≤ 1000 := by
    rw [hLe]; unfold loopsOf
    rw [List.length_map]
    have := List.length_filter_le b (List.range l.length)
    rw [List.length_range] at this
    omega
  have hr0 : ∀ i : Int, 0 ≤ i → i < (l.length : Int) → (at_ re i = true ↔ (i = 0 ∨ P.getD i.toNat [] ≠ [])) := by
    intro i i0 i1
    rw [hway i i0]
    constructor
    · intro h
      cases h with
      | refl => exact .inl rfl
      | step hb hc =>
        rename_i p
        refine .inr (fun e => ?_)
        have rp : ∀ x, PGraphAbove.Way (nxOf l) 0 x → 0 ≤ x ∧ x < (l.length : Int) := fun x hx => by
          induction hx with
          | refl => omega
          | step _ hc _ => exact hin _ _ hc
        have := (predsOf_is (fun i => nxOf_in l i) hway i0 (p := p)).2 ⟨rp p hb, hb, hc⟩
        rw [← hPe, e] at this
        exact absurd this (by simp)
    · rintro (rfl | h)
      · exact .refl _
      · obtain ⟨p, hp⟩ := List.exists_mem_of_ne_nil _ h
        rw [hPe] at hp
        obtain ⟨_, w, hc⟩ := (predsOf_is (fun i => nxOf_in l i) hway i0).1 hp
        exact .step w hc
  have hd0 : ∀ i : Int, 0 ≤ i → i < (l.length : Int) → val D i 0 = at_ re i := fun i i0 i1 => by
    rw [Bool.eq_iff_iff, hdom i 0 i0 i1 (by omega) (by omega), dom_zero, hway i i0]
  have hdi : ∀ i : Int, 0 ≤ i → i < (l.length : Int) → val D i i = at_ re i := fun i i0 i1 => by
    rw [Bool.eq_iff_iff, hdom i i i0 i1 i0 i1, dom_self, hway i i0]
  have htr : ∀ i k j : Int, 0 ≤ i → i < (l.length : Int) → 0 ≤ k → k < (l.length : Int) → 0 ≤ j → j < (l.length : Int) → val D i k = true → val D k j = true → val D i j = true := fun i k j i0 i1 k0 k1 j0 j1 h1 h2 =>
    (hdom i j i0 i1 j0 j1).2 (dom_trans ((hdom i k i0 i1 k0 k1).1 h1) ((hdom k j k0 k1 j0 j1).1 h2))
  have han : ∀ i k : Int, 0 ≤ i → i < (l.length : Int) → 0 ≤ k → k < (l.length : Int) → val D i k = true → val D k i = true → i = k := fun i k i0 i1 k0 k1 h1 h2 =>
    dom_anti ((hdom i k i0 i1 k0 k1).1 h1) ((hdom k i k0 k1 i0 i1).1 h2)
  -- the loops
  have loops : ∀ q : Int, 0 ≤ q → q ≤ (L.length : Int) → Ev (fun k => palinglaw14_GraphAbove.l3 k D L q) true := by
    refine up_ind (n := L.length) ?_ ?_
    · refine Ev.step (f := fun _ => some true) (fun k => ?_) (Ev.con rfl)
      show (if ((L.length : Nat) : Int) < (L.length : Int) then _ else some true) = some true
      rw [if_neg (by omega)]
    · intro q q0 q1 ih
      have hql : q.toNat < L.length := by omega
      have hwq : wrap64 (q + 1) = q + 1 := wrap_up q0 q1 (by omega)
      obtain ⟨r, hr⟩ : ∃ r, r = L.getD q.toNat [] := ⟨_, rfl⟩
      have hrm : r ∈ L := by rw [hr, List.getD_eq_getElem?_getD, List.getElem?_eq_getElem hql]; exact List.getElem_mem hql
      obtain ⟨h, hh, hb, hre2⟩ := hrw r hrm
      have hSl := hLS.len h hh hb
      have hSm := hLS.mem h hh hb
      have hrl : r.length ≤ 1000 := by
        rw [hre2]
        have := membP_len (S h) (S h).length
        rw [membP_done] at this
        omega
      have hrin : ∀ x ∈ r, 0 ≤ x ∧ x < (l.length : Int) := fun x hx => by
        rw [hre2, memb_in] at hx
        refine ⟨hx.1, ?_⟩
        rcases Int.lt_or_le x (l.length : Int) with h1 | h1
        · exact h1
        · have h2 := hx.2
          unfold at_ at h2
          rw [List.getD_eq_getElem?_getD, List.getElem?_eq_none (by omega)] at h2
          exact absurd h2 (by simp)
      have hhm : (h : Int) ∈ r := by
        rw [hre2, memb_in]
        exact ⟨by omega, (hSm (h : Int) (by omega) (by omega)).2 (.inl rfl)⟩
      obtain ⟨kh, hkh, hke⟩ := List.mem_iff_getElem.1 hhm
      obtain ⟨j0, hj0⟩ := (hLS.is h hh).1 hb
      have habove : ∀ x ∈ r, val D x (h : Int) = true := fun x hx => by
        have hxr := hrin x hx
        rw [hdom x h hxr.1 hxr.2 (by omega) (by omega)]
        rw [hre2, memb_in] at hx
        rcases (hSm x hxr.1 hxr.2).1 hx.2 with e | ⟨j, hj, hw, hwn⟩
        · subst e
          refine dom_self.2 ?_
          exact .step hj0.2.1 hj0.2.2.1
        · exact head_above hj.2.2.2 hw hwn
      refine Ev.step (f := fun k => if q < (L.length : Int) then palinglaw14_GraphAbove.l4 k D L q 0 0 else some true) (fun k => rfl) (Ev.pos q1 ?_)
      have mid : ∀ m : Int, 0 ≤ m → m ≤ (r.length : Int) → ∀ c : Int, 0 ≤ c → c ≤ m → ((kh : Int) < m → 1 ≤ c) → Ev (fun k => palinglaw14_GraphAbove.l4 k D L q c m) true := by
        refine up_ind (n := r.length) ?_ ?_
        · intro c c0 c1 hc
          have hc1 := hc (by omega)
          refine Ev.step (f := fun k => if 0 ≤ q then (if q < (L.length : Int) then (if ((r.length : Nat) : Int) < (r.length : Int) then none else (if c < 1 then none else palinglaw14_GraphAbove.l3 k D L (wrap64 (q + 1)))) else none) else none) (fun k => ?_) (Ev.pos q0 (Ev.pos q1 (Ev.neg (by omega) (Ev.neg (by omega) ?_))))
          · rw [hr]
            show (if 0 ≤ q then (if q < (L.length : Int) then (if (((L.getD q.toNat []).length : Nat) : Int) < ((L.getD q.toNat []).length : Int) then _ else (if c < 1 then _ else palinglaw14_GraphAbove.l3 k D L (wrap64 (q + 1)))) else none) else none) = _
            simp only [if_pos q0, if_pos q1, Int.lt_irrefl, if_false, if_neg (show ¬ c < 1 by omega)]
          · rw [hwq]; exact ih
        · intro m m0 m1 ihm c c0 c1 hc
          have hml : m.toNat < r.length := by omega
          obtain ⟨x, hx⟩ : ∃ x, x = r.getD m.toNat 0 := ⟨_, rfl⟩
          have hxm : x ∈ r := by rw [hx, List.getD_eq_getElem?_getD, List.getElem?_eq_getElem hml]; exact List.getElem_mem hml
          have hxr := hrin x hxm
          have hwm : wrap64 (m + 1) = m + 1 := wrap_up m0 m1 (by omega)
          have hwc : wrap64 (c + 1) = c + 1 := wrap_in (by omega) (by omega)
          have inner : ∀ t : Int, 0 ≤ t → t ≤ (r.length : Int) → ∀ a : Bool, (m = (kh : Int) → a = true) → Ev (fun k => palinglaw14_GraphAbove.l5 k D L q c m a t) true := by
            refine up_ind (n := r.length) ?_ ?_
            · intro a ha
              refine Ev.step (f := fun k => if 0 ≤ q then (if q < (L.length : Int) then (if ((r.length : Nat) : Int) < (r.length : Int) then none else (if a = true then palinglaw14_GraphAbove.l4 k D L q (wrap64 (c + 1)) (wrap64 (m + 1)) else palinglaw14_GraphAbove.l4 k D L q c (wrap64 (m + 1)))) else none) else none) (fun k => ?_) (Ev.pos q0 (Ev.pos q1 (Ev.neg (by omega) ?_)))
              · rw [hr]
                show (if 0 ≤ q then (if q < (L.length : Int) then (if (((L.getD q.toNat []).length : Nat) : Int) < ((L.getD q.toNat []).length : Int) then _ else (if a = true then palinglaw14_GraphAbove.l4 k D L q (wrap64 (c + 1)) (wrap64 (m + 1)) else palinglaw14_GraphAbove.l4 k D L q c (wrap64 (m + 1)))) else none) else none) = _
                simp only [if_pos q0, if_pos q1, Int.lt_irrefl, if_false]
              · rw [hwc, hwm]
                by_cases hat : a = true
                · exact Ev.pos hat (ihm (c + 1) (by omega) (by omega) (fun _ => by omega))
                · refine Ev.neg hat (ihm c c0 (by omega) (fun hk => ?_))
                  by_cases e : m = (kh : Int)
                  · exact absurd (ha e) hat
                  · exact hc (by omega)
            · intro t t0 t1 iht a ha
              have htl : t.toNat < r.length := by omega
              obtain ⟨y, hy⟩ : ∃ y, y = r.getD t.toNat 0 := ⟨_, rfl⟩
              have hym : y ∈ r := by rw [hy, List.getD_eq_getElem?_getD, List.getElem?_eq_getElem htl]; exact List.getElem_mem htl
              have hyr := hrin y hym
              have hwt : wrap64 (t + 1) = t + 1 := wrap_up t0 t1 (by omega)
              refine Ev.step (f := fun k => if 0 ≤ q then (if q < (L.length : Int) then (if t < (r.length : Int) then (if a = true then (if 0 ≤ t then (if 0 ≤ y then (if y < (D.length : Int) then (if 0 ≤ m then (if m < (r.length : Int) then (if 0 ≤ x then (if x < ((D.getD y.toNat []).length : Int) then (palinglaw14_GraphAbove.l5 k D L q c m (val D y x) (wrap64 (t + 1))) else none) else none) else none) else none) else none) else none) else none) else (palinglaw14_GraphAbove.l5 k D L q c m false (wrap64 (t + 1)))) else (if a = true then palinglaw14_GraphAbove.l4 k D L q (wrap64 (c + 1)) (wrap64 (m + 1)) else palinglaw14_GraphAbove.l4 k D L q c (wrap64 (m + 1)))) else none) else none) (fun k => by rw [hx, hy, hr]; rfl) ?_
              refine Ev.pos q0 (Ev.pos q1 (Ev.pos t1 ?_))
              rw [hwt]
              by_cases hat : a = true
              · refine Ev.pos hat (Ev.pos t0 (Ev.pos hyr.1 (Ev.pos (by rw [hsq.1]; exact hyr.2) (Ev.pos m0 (Ev.pos m1 (Ev.pos hxr.1 (Ev.pos (by rw [sq_row hsq hyr.1 hyr.2]; exact hxr.2) (iht _ (fun e => ?_)))))))))
                have hxe : x = (h : Int) := by
                  rw [hx, ← hke, e, Int.toNat_natCast, List.getD_eq_getElem?_getD, List.getElem?_eq_getElem hkh]; rfl
                rw [hxe]; exact habove y hym
              · exact Ev.neg hat (iht false (fun e => absurd (ha e) hat))
          refine Ev.step (f := fun k => if 0 ≤ q then (if q < (L.length : Int) then (if m < (r.length : Int) then palinglaw14_GraphAbove.l5 k D L q c m true 0 else (if c < 1 then none else palinglaw14_GraphAbove.l3 k D L (wrap64 (q + 1)))) else none) else none) (fun k => ?_) (Ev.pos q0 (Ev.pos q1 (Ev.pos m1 (inner 0 (by omega) (by omega) true (fun _ => rfl)))))
          rw [hr] at m1
          rw [hr]
          show (if 0 ≤ q then (if q < (L.length : Int) then (if m < ((L.getD q.toNat []).length : Int) then palinglaw14_GraphAbove.l5 k D L q c m true 0 else _) else none) else none) = _
          simp only [if_pos q0, if_pos q1, if_pos m1]
      exact mid 0 (by omega) (by omega) 0 (by omega) (by omega) (fun h => by omega)
  refine Ev.step (f := fun k => (graph_Reach.f k l).bind fun t179 => ((graph_Dominates.f k l).bind fun t182 => ((graph_Preds.f k l).bind fun t185 => (palinglaw14_GraphAbove.l0 k l t179 t182 t185 0)))) (fun k => rfl) ?_
  refine Ev.bind hre (Ev.bind hD (Ev.bind hP ?_))
  have outer : ∀ i : Int, 0 ≤ i → i ≤ (l.length : Int) → Ev (fun k => palinglaw14_GraphAbove.l0 k l re D P i) true := by
    refine up_ind (n := l.length) ?_ ?_
    · refine Ev.step (f := fun k => (graph_Loops.f k l).bind fun t => palinglaw14_GraphAbove.l3 k D t 0) (fun k => ?_) (Ev.bind hL (loops 0 (by omega) (by omega)))
      show (if ((l.length : Nat) : Int) < (l.length : Int) then _ else ((graph_Loops.f k l).bind fun t => palinglaw14_GraphAbove.l3 k D t 0)) = _
      rw [if_neg (by omega)]
    · intro i i0 i1 ih
      have hwi : wrap64 (i + 1) = i + 1 := wrap_up i0 i1 (by omega)
      have hrowi := sq_row hsq i0 i1
      have mid : ∀ m : Int, 0 ≤ m → m ≤ (l.length : Int) → Ev (fun k => palinglaw14_GraphAbove.l1 k l re D P i m) true := by
        refine up_ind (n := l.length) ?_ ?_
        · refine Ev.step (f := fun k => palinglaw14_GraphAbove.l0 k l re D P (wrap64 (i + 1))) (fun k => ?_) ?_
          · show (if ((l.length : Nat) : Int) < (l.length : Int) then _ else palinglaw14_GraphAbove.l0 k l re D P (wrap64 (i + 1))) = _
            rw [if_neg (by omega)]
          · rw [hwi]; exact ih
        · intro m m0 m1 ihm
          have hwm : wrap64 (m + 1) = m + 1 := wrap_up m0 m1 (by omega)
          have hrowm := sq_row hsq m0 m1
          have inner : ∀ j : Int, 0 ≤ j → j ≤ (l.length : Int) → Ev (fun k => palinglaw14_GraphAbove.l2 k l re D P i m j) true := by
            refine up_ind (n := l.length) ?_ ?_
            · refine Ev.step (f := fun k => palinglaw14_GraphAbove.l1 k l re D P i (wrap64 (m + 1))) (fun k => ?_) ?_
              · show (if ((l.length : Nat) : Int) < (l.length : Int) then _ else palinglaw14_GraphAbove.l1 k l re D P i (wrap64 (m + 1))) = _
                rw [if_neg (by omega)]
              · rw [hwm]; exact ihm
            · intro j j0 j1 ihj
              have hwj : wrap64 (j + 1) = j + 1 := wrap_up j0 j1 (by omega)
              refine Ev.step (f := fun k => if j < (l.length : Int) then (if 0 ≤ i then (if i < (D.length : Int) then (if 0 ≤ m then (if m < ((D.getD i.toNat []).length : Int) then (if val D i m = true then (if m < (D.length : Int) then (if 0 ≤ j then (if j < ((D.getD m.toNat []).length : Int) then (if val D m j = true then (if j < ((D.getD i.toNat []).length : Int) then (if val D i j = true then (if i < ((D.getD m.toNat []).length : Int) then (if val D m i = true then (if i = m then (palinglaw14_GraphAbove.l2 k l re D P i m (wrap64 (j + 1))) else none) else (palinglaw14_GraphAbove.l2 k l re D P i m (wrap64 (j + 1)))) else none) else none) else none) else (if i < ((D.getD m.toNat []).length : Int) then (if val D m i = true then (if i = m then (palinglaw14_GraphAbove.l2 k l re D P i m (wrap64 (j + 1))) else none) else (palinglaw14_GraphAbove.l2 k l re D P i m (wrap64 (j + 1)))) else none)) else none) else none) else none) else (palinglaw14_GraphAbove.l2 k l re D P i m (wrap64 (j + 1)))) else none) else none) else none) else none) else palinglaw14_GraphAbove.l1 k l re D P i (wrap64 (m + 1))) (fun k => rfl) ?_
              rw [hwj, hrowi, hrowm]
              refine Ev.pos j1 (Ev.pos i0 (Ev.pos (by rw [hsq.1]; exact i1) (Ev.pos m0 (Ev.pos m1 ?_))))
              by_cases hv1 : val D i m = true
              case neg => exact Ev.neg hv1 ihj
              refine Ev.pos hv1 (Ev.pos (by rw [hsq.1]; exact m1) (Ev.pos j0 (Ev.pos j1 ?_)))
              have last : Ev (fun k => if i < (l.length : Int) then (if val D m i = true then (if i = m then (palinglaw14_GraphAbove.l2 k l re D P i m (j + 1)) else none) else (palinglaw14_GraphAbove.l2 k l re D P i m (j + 1))) else none) true := by
                refine Ev.pos i1 ?_
                by_cases hv3 : val D m i = true
                · exact Ev.pos hv3 (Ev.pos (han i m i0 i1 m0 m1 hv1 hv3) ihj)
                · exact Ev.neg hv3 ihj
              by_cases hv2 : val D m j = true
              · exact Ev.pos hv2 (Ev.pos j1 (Ev.pos (htr i m j i0 i1 m0 m1 j0 j1 hv1 hv2) last))
              · exact Ev.neg hv2 last
          refine Ev.step (f := fun k => if m < (l.length : Int) then palinglaw14_GraphAbove.l2 k l re D P i m 0 else palinglaw14_GraphAbove.l0 k l re D P (wrap64 (i + 1))) (fun k => rfl) (Ev.pos m1 (inner 0 (by omega) (by omega)))
      have nxt : Ev (fun k => palinglaw14_GraphAbove.j2 k l re D P i false) true := Ev.step (f := fun k => palinglaw14_GraphAbove.l1 k l re D P i 0) (fun k => rfl) (mid 0 (by omega) (by omega))
      refine Ev.step (f := fun k => if i < (l.length : Int) then (if 0 ≤ i then (if i < (D.length : Int) then (if 0 < ((D.getD i.toNat []).length : Int) then (if i < (re.length : Int) then (if (val D i 0 != at_ re i) = true then (palinglaw14_GraphAbove.j2 k l re D P i true) else (if i < ((D.getD i.toNat []).length : Int) then (if (val D i i != at_ re i) = true then (palinglaw14_GraphAbove.j2 k l re D P i true) else (if i = 0 then (palinglaw14_GraphAbove.j2 k l re D P i (at_ re i != true)) else (if i < (P.length : Int) then (palinglaw14_GraphAbove.j2 k l re D P i (at_ re i != decide (((P.getD i.toNat []).length : Int) > 0))) else none))) else none)) else none) else none) else none) else none) else ((graph_Loops.f k l).bind fun t => palinglaw14_GraphAbove.l3 k D t 0)) (fun k => rfl) ?_
      rw [hd0 i i0 i1, hdi i i0 i1, hrowi]
      refine Ev.pos i1 (Ev.pos i0 (Ev.pos (by rw [hsq.1]; exact i1) (Ev.pos (by omega) (Ev.pos (by rw [hrel]; exact i1) (Ev.neg (by simp) (Ev.pos i1 (Ev.neg (by simp) ?_)))))))
      by_cases e : i = 0
      · refine Ev.pos e ?_
        rw [show (at_ re i != true) = false by rw [(hr0 i i0 i1).2 (.inl e)]; rfl]
        exact nxt
      · refine Ev.neg e (Ev.pos (by rw [hPl]; exact i1) ?_)
        have e2 : at_ re i = decide (((P.getD i.toNat []).length : Int) > 0) := by
          rw [Bool.eq_iff_iff, hr0 i i0 i1, decide_eq_true_iff]
          constructor
          · rintro (h | h)
            · exact absurd h e
            · have := List.length_pos_iff.2 h; omega
          · intro h; exact .inr (List.length_pos_iff.1 (by omega))
        rw [e2, show (decide (((P.getD i.toNat []).length : Int) > 0) != decide (((P.getD i.toNat []).length : Int) > 0)) = false by simp]
        exact nxt
  exact outer 0 (by omega) (by omega)
end Go.Proofs.YtoncneglplglhaaDoor.Pure
