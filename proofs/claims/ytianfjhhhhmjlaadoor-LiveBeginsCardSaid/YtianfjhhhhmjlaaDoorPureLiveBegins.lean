/- Behind a Set of each register nothing is needed ahead of the first place, and all that was needed is as it was. -/
import Derived.Test.YtianfjhhhhmjlaaDoorStmLiveBegins
import Derived.Test.YtianfjhhhhmjlaaDoorPLiveBeginsx2
import Derived.Test.YtianfjhhhhmjlaaDoorPLiveBeginsx4
import Derived.Test.YtianfjhhhhmjlaaDoorPLiveBeginsx5
import Derived.Test.YtianfjhhhhmjlaaDoorPLiveBeginshawake15
import Derived.Test.YtianfjhhhhmjlaaDoorPLiveBeginshints
import Derived.Test.YtianfjhhhhmjlaaDoorPLiveBeginshlbegin
import Derived.Test.YtianfjhhhhmjlaaDoorPLiveBeginshlenv
import Derived.Test.YtianfjhhhhmjlaaDoorPLiveBeginshlgrow
import Derived.Test.YtianfjhhhhmjlaaDoorPLiveBeginshlrows
import Derived.Test.YtianfjhhhhmjlaaDoorPLiveBeginshlspec
import Derived.Test.YtianfjhhhhmjlaaDoorPLiveBeginshlspec2
import Derived.Test.YtianfjhhhhmjlaaDoorPLiveBeginshluses
import Derived.Test.YtianfjhhhhmjlaaDoorPLiveBeginshplain0
import Derived.Test.YtianfjhhhhmjlaaDoorPLiveBeginshregs15
import Derived.Test.YtianfjhhhhmjlaaDoorPLiveBeginshregsl
import Derived.Test.YtianfjhhhhmjlaaDoorPLiveBeginshuses
namespace Go.Proofs.YtianfjhhhhmjlaaDoor.Pure
open Go.RowKit Go.Proofs.YtianfjhhhhmjlaaDoor.PLiveBegins Go.Proofs.YtianfjhhhhmjlaaDoorW.PrintWords Go.Proofs.YtianfjhhhhmjlaaDoorW.PrintLast Go.Proofs.YtianfjhhhhmjlaaDoorW.PrintMore
set_option linter.unusedVariables false
set_option linter.unusedSimpArgs false
theorem take_map {α β : Type} (f : α → β) (l : List α) (z : α) (i : Nat) (h : i < l.length) : (l.take (i + 1)).map f = (l.take i).map f ++ [f (l.getD i z)] := by
  rw [List.take_succ_eq_append_getElem h, List.map_append]
  simp [h]
theorem LiveBegins : palinglaw15_LiveBegins.Pure := by
  intro l hl0 hw0
  suffices h : Ev (fun k => palinglaw15_LiveBegins.f k l) true from h.rounds
  have out : Ev (fun k => palinglaw15_LiveBegins.j0 k l true) true := Ev.step (f := fun _ => some true) (fun k => rfl) (Ev.con rfl)
  refine Ev.congr (fun k => rfl) (Ev.bind awake15 (Ev.tt (Ev.bind (small_spec l (by omega)) ?_)))
  cases hs : smallB l with
  | false => exact Ev.neg (by simp) out
  | true =>
    obtain ⟨h30, hsm⟩ := small_facts hs
    refine Ev.pos rfl ?_
    by_cases h20 : (l.length : Int) > 20
    · rw [show decide ((l.length : Int) > 20) = true from decide_eq_true h20]; exact out
    rw [show decide ((l.length : Int) > 20) = false from decide_eq_false h20]
    refine Ev.step (f := fun k => (palingref15_Regs.f k l).bind fun t => palinglaw15_LiveBegins.l0 k l t [] 0) (fun k => rfl) (Ev.bind (regs_spec l (by omega)) ?_)
    obtain ⟨hR1, hR2⟩ := regsL_spec l
    obtain ⟨R, hR⟩ : ∃ R, R = regsL l := ⟨_, rfl⟩
    rw [← hR] at hR1 hR2 ⊢
    have hRm : ∀ r ∈ R, 0 ≤ r ∧ r ≤ 30 := fun r hr => by
      obtain ⟨x, hx, h⟩ := (hR2 r).1 hr
      have hb := hsm x hx
      rcases h with h | ⟨h, h0⟩
      · rw [← luses_eq x] at h
        obtain ⟨h0, h1⟩ := (useQ_mem x r).1 h
        rcases h1 with ⟨_, rfl⟩ | ⟨_, rfl⟩ | ⟨_, rfl⟩ <;> omega
      · refine ⟨by omega, ?_⟩
        rw [h]
        unfold defL
        split <;> omega
    have hRl : R.length ≤ 31 := by
      have := nodup_len (S := R) (T := (List.range 31).map (fun n : Nat => (n : Int))) (up_nodup hR1) (fun r hr => by
        have := hRm r hr
        exact List.mem_map.2 ⟨r.toNat, List.mem_range.2 (by omega), by omega⟩)
      simpa using this
    have hlD : (codeD R l).length ≤ 1000 := by rw [codeD_len]; omega
    obtain ⟨A, B, he, hF⟩ := flow_spec l (by omega)
    obtain ⟨A2, B2, he2, hF2⟩ := flow_spec (codeD R l) hlD
    have hwA := hF.wfA (by omega) hsm
    have hsm2 : ∀ x ∈ codeD R l, x.f2 ≤ 30 ∧ x.f3 ≤ 30 ∧ x.f4 ≤ 30 := fun x hx => by
      rcases List.mem_append.1 hx with hx | hx
      · obtain ⟨r, hr, rfl⟩ := List.mem_map.1 hx
        have := hRm r hr
        exact ⟨by show r ≤ 30; omega, by show (0 : Int) ≤ 30; omega, by show (0 : Int) ≤ 30; omega⟩
      · obtain ⟨y, hy, rfl⟩ := List.mem_map.1 hx
        exact hsm y hy
    have hwA2 := hF2.wfA hlD hsm2
    have hlenD := codeD_len (R := R) (c := l)
    have hA := hF.lA
    have hA2 := hF2.lA
    have rows : ∀ i : Nat, i < l.length → A2.getD (R.length + i) [] = A.getD i [] := fun i hi => up_same (getD_up hF2.uA _) (getD_up hF.uA _) (fun r => by
      rw [hF2.need _ (by omega), hF.need i hi]
      exact ⟨fun h => need_down hlD h i rfl, fun h => need_up hlD h⟩)
    have first : 0 < A2.length → A2.getD 0 [] = [] := fun h0 => List.eq_nil_iff_forall_not_mem.2 (fun r hr => by
      obtain ⟨h1, h2⟩ := need_head hlD ((hF2.need 0 (by omega) r).1 hr) (by omega)
      obtain ⟨j, hj, hu⟩ := need_used (need_down hlD h2 0 rfl)
      have hrR : r ∈ R := (hR2 r).2 ⟨l.getD j z39, by rw [List.getD_eq_getElem?_getD, List.getElem?_eq_getElem hj]; exact List.getElem_mem _, .inl (by rw [← luses_eq]; exact hu)⟩
      obtain ⟨q, hq, hqe⟩ := List.mem_iff_getElem.1 hrR
      exact h1 q (by omega) hq (by rw [List.getD_eq_getElem?_getD, List.getElem?_eq_getElem hq]; exact hqe.symm))
    -- the rows are held against each other
    have last : ∀ i : Int, 0 ≤ i → i ≤ (l.length : Int) → Ev (fun k => palinglaw15_LiveBegins.l2 k l (R.length : Int) A A2 i) true := by
      refine up_ind ?_ ?_
      · refine Ev.step (fun k => rfl) (Ev.neg (by omega) ?_)
        by_cases h0 : (A2.length : Int) = 0
        · exact Ev.pos h0 (Ev.con rfl)
        · refine Ev.neg h0 (Ev.pos (by omega) (Ev.con ?_))
          rw [show rd_L5 A2 0 = A2.getD 0 [] from rfl, first (by omega)]
          rfl
      · intro i i0 i1 ih
        have hw : wrap64 ((R.length : Int) + i) = (R.length : Int) + i := wrap_in (by omega) (by omega)
        rw [← wrap_up i0 i1 (by omega)] at ih
        refine Ev.step (f := fun k => if i < (l.length : Int) then (if 0 ≤ i then (if i < (A.length : Int) then (if 0 ≤ (wrap64 ((R.length : Int) + i)) then (if (wrap64 ((R.length : Int) + i)) < (A2.length : Int) then ((palingref14_Ints.f k (A.getD i.toNat []) (A2.getD (wrap64 ((R.length : Int) + i)).toNat [])).bind fun t => (if t = true then (palinglaw15_LiveBegins.l2 k l (R.length : Int) A A2 (wrap64 (i + 1))) else none)) else none) else none) else none) else none) else _) (fun k => rfl) ?_
        rw [hw]
        refine Ev.pos i1 (Ev.pos i0 (Ev.pos (by omega) (Ev.pos (by omega) (Ev.pos (by omega) ?_))))
        rw [show ((R.length : Int) + i).toNat = R.length + i.toNat by omega, rows i.toNat (by omega)]
        have nA := hF.nA i.toNat
        refine Ev.bind (ints_spec _ _ (by omega)) (Ev.pos (by simp) ih)
    -- the code itself is laid
    have lay : ∀ i : Int, 0 ≤ i → i ≤ (l.length : Int) → Ev (fun k => palinglaw15_LiveBegins.l1 k l (R.map setI ++ (l.take i.toNat).map (shiftI R.length)) (R.length : Int) i) true := by
      refine up_ind ?_ ?_
      · rw [show ((l.length : Nat) : Int).toNat = l.length by omega, List.take_length]
        refine Ev.step (fun k => rfl) (Ev.neg (by omega) (Ev.bind (ahead_spec he hwA) (Ev.bind (ahead_spec he2 hwA2) (last 0 (by omega) (by omega)))))
      · intro i i0 i1 ih
        rw [show (i + 1).toNat = i.toNat + 1 by omega, take_map _ l z39 i.toNat (by omega), ← List.append_assoc, ← wrap_up i0 i1 (by omega)] at ih
        refine Ev.step (fun k => rfl) (Ev.pos i1 (Ev.pos i0 ?_))
        rw [show rd_T39 l i = l.getD i.toNat z39 from rfl]
        have hlen : (R.map setI ++ (l.take i.toNat).map (shiftI R.length)).length < 2513169434916 := by simp; omega
        generalize R.map setI ++ (l.take i.toNat).map (shiftI R.length) = D at ih hlen ⊢
        generalize l.getD i.toNat z39 = x at ih ⊢
        have go : ∀ b : Bool, (b = false → -1000 ≤ x.f6 ∧ x.f6 ≤ 1000) → Ev (fun k => palinglaw15_LiveBegins.j3 k l D (R.length : Int) i b x.f0 x.f1 x.f2 x.f3 x.f4 x.f5 x.f6) true := fun b hb => by
          cases b with
          | true => exact Ev.step (f := fun _ => some true) (fun k => rfl) (Ev.con rfl)
          | false =>
            have hb' := hb rfl
            refine Ev.step (f := fun k => if x.f6 < 0 then (if D.length < 2513169434916 then palinglaw15_LiveBegins.l1 k l (D ++ [(⟨x.f0, x.f1, x.f2, x.f3, x.f4, x.f5, -1⟩ : S39)]) (R.length : Int) (wrap64 (i + 1)) else none) else (if D.length < 2513169434916 then palinglaw15_LiveBegins.l1 k l (D ++ [(⟨x.f0, x.f1, x.f2, x.f3, x.f4, x.f5, wrap64 (x.f6 + (R.length : Int))⟩ : S39)]) (R.length : Int) (wrap64 (i + 1)) else none)) (fun k => rfl) ?_
            unfold shiftI at ih
            by_cases hx : x.f6 < 0
            · rw [if_pos hx] at ih
              exact Ev.pos hx (Ev.pos hlen ih)
            · rw [if_neg hx] at ih
              refine Ev.neg hx (Ev.pos hlen ?_)
              rw [wrap_in (x := x.f6 + (R.length : Int)) (by omega) (by omega)]
              exact ih
        by_cases c1 : x.f6 < -1000
        · exact Ev.pos c1 (go true (fun h => absurd h (by simp)))
        · refine Ev.neg c1 (go _ (fun h => ?_))
          have := of_decide_eq_false h
          omega
    have sets : ∀ j : Int, 0 ≤ j → j ≤ (R.length : Int) → Ev (fun k => palinglaw15_LiveBegins.l0 k l R ((R.take j.toNat).map setI) j) true := by
      refine up_ind ?_ ?_
      · rw [show ((R.length : Nat) : Int).toNat = R.length by omega, List.take_length]
        refine Ev.step (fun k => rfl) (Ev.neg (by omega) ?_)
        have := lay 0 (by omega) (by omega)
        rw [show (0 : Int).toNat = 0 from rfl, List.take_zero, List.map_nil, List.append_nil] at this
        rw [List.length_map]
        exact this
      · intro j j0 j1 ih
        rw [show (j + 1).toNat = j.toNat + 1 by omega, take_map _ R 0 j.toNat (by omega), ← wrap_up j0 j1 (by omega)] at ih
        exact Ev.step (fun k => rfl) (Ev.pos j1 (Ev.pos j0 (Ev.pos (by simp; omega) ih)))
    have := sets 0 (by omega) (by omega)
    rw [show (0 : Int).toNat = 0 from rfl, List.take_zero, List.map_nil] at this
    exact this
end Go.Proofs.YtianfjhhhhmjlaaDoor.Pure
