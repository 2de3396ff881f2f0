/- No more is needed at once than there are ranges over a place; at some place just so much is. -/
import Derived.Test.YtianfjhhhhmjlaaDoorStmLiveMost
import Derived.Test.YtianfjhhhhmjlaaDoorPLiveMostx3
import Derived.Test.YtianfjhhhhmjlaaDoorPLiveMosthawake15
import Derived.Test.YtianfjhhhhmjlaaDoorPLiveMosthlenv
import Derived.Test.YtianfjhhhhmjlaaDoorPLiveMosthlgrow
import Derived.Test.YtianfjhhhhmjlaaDoorPLiveMosthlmost
import Derived.Test.YtianfjhhhhmjlaaDoorPLiveMosthlranges
import Derived.Test.YtianfjhhhhmjlaaDoorPLiveMosthlspec2
import Derived.Test.YtianfjhhhhmjlaaDoorPLiveMosthlspec3
import Derived.Test.YtianfjhhhhmjlaaDoorPLiveMosthplain0
namespace Go.Proofs.YtianfjhhhhmjlaaDoor.Pure
open Go.RowKit Go.Proofs.YtianfjhhhhmjlaaDoor.PLiveMost Go.Proofs.YtianfjhhhhmjlaaDoorW.PrintWords Go.Proofs.YtianfjhhhhmjlaaDoorW.PrintLast Go.Proofs.YtianfjhhhhmjlaaDoorW.PrintMore
set_option linter.unusedVariables false
set_option linter.unusedSimpArgs false
def overQ (i : Int) (x : S30) : Bool := decide (x.f1 ≤ i) && decide (i ≤ x.f2)
theorem over_len {c : List S39} {A B : List (List Int)} (hF : FlowS c A B) {i : Nat} (hi : i < c.length) : (A.getD i []).length ≤ ((rangesL c A B).filter (overQ (i : Int))).length := by
  obtain ⟨_, _, k3⟩ := ranges_facts hF
  have h1 := nodup_len (S := A.getD i []) (T := ((rangesL c A B).filter (overQ (i : Int))).map (·.f0)) (up_nodup (getD_up hF.uA i)) (fun r hr => by
    obtain ⟨x, hx, e0, e1, e2⟩ := k3 i r hi ((mem_hereL hF.uA i r).2 (.inl hr))
    exact List.mem_map.2 ⟨x, List.mem_filter.2 ⟨hx, by unfold overQ; simp [e1, e2]⟩, e0⟩)
  simpa using h1
theorem LiveMost : palinglaw15_LiveMost.Pure := by
  intro l hl0 hw0
  suffices h : Ev (fun k => palinglaw15_LiveMost.f k l) true from h.rounds
  refine Ev.congr (fun k => rfl) (Ev.bind awake15 (Ev.tt (Ev.bind (small_spec l (by omega)) ?_)))
  cases hs : smallB l with
  | false => exact Ev.neg (by simp) (Ev.con rfl)
  | true =>
    obtain ⟨h30, hsm⟩ := small_facts hs
    obtain ⟨A, B, he, hF⟩ := flow_spec l (by omega)
    have hwA := hF.wfA (by omega) hsm
    have hwR := hF.wfR (by omega) hsm
    refine Ev.pos rfl (Ev.bind (ahead_spec he hwA) (Ev.bind (ranges_spec he (by omega) hwR) (Ev.bind (most_spec he hwA) ?_)))
    obtain ⟨k1, k2, _⟩ := ranges_facts hF
    have hov : ∀ i : Nat, i < l.length → (A.getD i []).length ≤ ((rangesL l A B).filter (overQ (i : Int))).length := fun i hi => over_len hF hi
    obtain ⟨M, hM⟩ : ∃ M, M = rangesL l A B := ⟨_, rfl⟩
    rw [← hM] at k1 k2 hov hwR ⊢
    have hMl := hwR.1
    have hmle := (mostL_le A 0).2
    have hm0 := (mostL_le A 0).1
    have hmat := mostL_at A 0
    change ∀ l ∈ A, (l.length : Int) ≤ mostL A at hmle
    change (0 : Int) ≤ mostL A at hm0
    change mostL A = 0 ∨ ∃ l ∈ A, (l.length : Int) = mostL A at hmat
    generalize mostL A = n at hmle hm0 hmat ⊢
    have hA := hF.lA
    -- the last loop
    have last : ∀ j : Int, 0 ≤ j → j ≤ (M.length : Int) → Ev (fun k => palinglaw15_LiveMost.l2 k l M true j) true := by
      refine up_ind ?_ ?_
      · exact Ev.step (fun k => rfl) (Ev.neg (by omega) (Ev.con rfl))
      · intro j j0 j1 ih
        rw [← wrap_up j0 j1 (by omega)] at ih
        have hjl : j.toNat < M.length := by omega
        have hx : rd_T30 M j = M[j.toNat] := by unfold rd_T30; rw [List.getD_eq_getElem?_getD, List.getElem?_eq_getElem hjl]; rfl
        obtain ⟨a1, a2, a3, _⟩ := k2 _ (List.getElem_mem hjl)
        rw [← hx] at a1 a2 a3
        refine Ev.step (fun k => rfl) (Ev.pos j1 (Ev.pos j0 (Ev.neg (by omega) (Ev.neg (by omega) (Ev.neg (by omega) ?_)))))
        by_cases hj : j > 0
        · refine Ev.pos hj ?_
          rw [wrap_in (x := j - 1) (by omega) (by omega)]
          refine Ev.pos (by omega) (Ev.pos (by omega) (Ev.neg ?_ ih))
          have hpl : (j - 1).toNat < M.length := by omega
          have hy : rd_T30 M (j - 1) = M[(j - 1).toNat] := by unfold rd_T30; rw [List.getD_eq_getElem?_getD, List.getElem?_eq_getElem hpl]; rfl
          rw [hx, hy]
          have := List.pairwise_iff_getElem.1 k1 (j - 1).toNat j.toNat hpl hjl (by omega)
          omega
        · exact Ev.neg hj ih
    -- the places
    have main : ∀ i : Int, 0 ≤ i → i ≤ (l.length : Int) → ∀ met : Bool, (met = true ∨ ∃ j : Nat, i ≤ (j : Int) ∧ j < l.length ∧ ((A.getD j []).length : Int) = n) → Ev (fun k => palinglaw15_LiveMost.l0 k l A M n met i) true := by
      refine up_ind ?_ ?_
      · intro met hm
        have : met = true := by
          rcases hm with h | ⟨j, h1, h2, _⟩
          · exact h
          · omega
        subst this
        exact Ev.step (fun k => rfl) (Ev.neg (by omega) (last 0 (by omega) (by omega)))
      · intro i i0 i1 ih met hm
        have hil : i.toNat < l.length := by omega
        rw [← wrap_up i0 i1 (by omega)] at ih
        have hrow : rd_L5 A i = A.getD i.toNat [] := rfl
        have hmem : A.getD i.toNat [] ∈ A := by
          have : i.toNat < A.length := by omega
          rw [List.getD_eq_getElem?_getD, List.getElem?_eq_getElem this]; exact List.getElem_mem this
        have inner : ∀ j : Int, 0 ≤ j → j ≤ (M.length : Int) → ∀ over : Int, 0 ≤ over → over ≤ j → ((A.getD i.toNat []).length : Int) ≤ over + ((M.drop j.toNat).filter (overQ i)).length → Ev (fun k => palinglaw15_LiveMost.l1 k l A M n met i over j) true := by
          refine up_ind ?_ ?_
          · intro over h0 h1 hc
            rw [List.drop_eq_nil_of_le (by omega)] at hc
            simp only [List.filter_nil, List.length_nil] at hc
            refine Ev.step (fun k => rfl) (Ev.neg (by omega) (Ev.pos i0 (Ev.pos (by omega) ?_)))
            rw [hrow]
            have := hmle _ hmem
            refine Ev.neg (by omega) (Ev.neg (by omega) ?_)
            cases met with
            | true => exact Ev.pos rfl (ih true (.inl rfl))
            | false =>
              refine Ev.neg (by simp) (ih _ ?_)
              rcases hm with h | ⟨j, h1, h2, h3⟩
              · exact absurd h (by simp)
              · by_cases hji : (j : Int) = i
                · left
                  rw [show i.toNat = j by omega]
                  simpa using h3
                · right
                  rw [wrap_up i0 i1 (by omega)]
                  exact ⟨j, by omega, h2, h3⟩
          · intro j j0 j1 ihj over h0 h1 hc
            rw [getD_drop M z30 j.toNat (by omega), List.filter_cons, show j.toNat + 1 = (j + 1).toNat by omega] at hc
            rw [← wrap_up j0 j1 (by omega)] at ihj
            refine Ev.step (fun k => rfl) (Ev.pos j1 (Ev.pos j0 ?_))
            rw [show rd_T30 M j = M.getD j.toNat z30 from rfl]
            rw [← wrap_up j0 j1 (by omega)] at hc
            generalize M.getD j.toNat z30 = y at hc ⊢
            unfold overQ at hc
            by_cases c1 : y.f1 ≤ i
            · refine Ev.pos c1 ?_
              by_cases c2 : i ≤ y.f2
              · refine Ev.pos c2 ?_
                rw [wrap_in (x := over + 1) (by omega) (by omega)]
                refine ihj (over + 1) (by omega) (by rw [wrap_up j0 j1 (by omega)]; omega) ?_
                rw [if_pos (by simp [c1, c2]), List.length_cons] at hc
                unfold overQ
                omega
              · refine Ev.neg c2 (ihj over h0 (by rw [wrap_up j0 j1 (by omega)]; omega) ?_)
                rw [if_neg (by simp [c2])] at hc
                exact hc
            · refine Ev.neg c1 (ihj over h0 (by rw [wrap_up j0 j1 (by omega)]; omega) ?_)
              rw [if_neg (by simp [c1])] at hc
              exact hc
        refine Ev.step (fun k => rfl) (Ev.pos i1 (inner 0 (by omega) (by omega) 0 (by omega) (by omega) ?_))
        have := hov i.toNat hil
        rw [show ((i.toNat : Nat) : Int) = i by omega] at this
        rw [show (0 : Int).toNat = 0 from rfl, List.drop_zero]
        omega
    refine main 0 (by omega) (by omega) _ ?_
    rcases hmat with h | ⟨r, hr, h⟩
    · exact .inl (by simpa using h)
    · obtain ⟨j, hj, rfl⟩ := row_of hr
      exact .inr ⟨j, by omega, by omega, h⟩
end Go.Proofs.YtianfjhhhhmjlaaDoor.Pure
