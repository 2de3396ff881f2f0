/- What is needed ahead of a place is read there, or needed behind it; all that is needed is in its range. -/
import Derived.Test.YtianfjhhhhmjlaaDoorStmLiveFlows
import Derived.Test.YtianfjhhhhmjlaaDoorPLiveFlowsx6
import Derived.Test.YtianfjhhhhmjlaaDoorPLiveFlowshawake15
import Derived.Test.YtianfjhhhhmjlaaDoorPLiveFlowshlgrow
import Derived.Test.YtianfjhhhhmjlaaDoorPLiveFlowshlhas
import Derived.Test.YtianfjhhhhmjlaaDoorPLiveFlowshlnx
import Derived.Test.YtianfjhhhhmjlaaDoorPLiveFlowshlnxref
import Derived.Test.YtianfjhhhhmjlaaDoorPLiveFlowshlranges
import Derived.Test.YtianfjhhhhmjlaaDoorPLiveFlowshlspec
import Derived.Test.YtianfjhhhhmjlaaDoorPLiveFlowshlspec2
import Derived.Test.YtianfjhhhhmjlaaDoorPLiveFlowshlspec3
import Derived.Test.YtianfjhhhhmjlaaDoorPLiveFlowshluses
import Derived.Test.YtianfjhhhhmjlaaDoorPLiveFlowshplain0
namespace Go.Proofs.YtianfjhhhhmjlaaDoor.Pure
open Go.RowKit Go.Proofs.YtianfjhhhhmjlaaDoor.PLiveFlows Go.Proofs.YtianfjhhhhmjlaaDoorW.PrintWords Go.Proofs.YtianfjhhhhmjlaaDoorW.PrintLast Go.Proofs.YtianfjhhhhmjlaaDoorW.PrintMore
set_option linter.unusedVariables false
set_option linter.unusedSimpArgs false
theorem mem_rd15 {l : List Int} {i : Int} (h0 : 0 ≤ i) (h1 : i < (l.length : Int)) : rd l i ∈ l := by
  have : i.toNat < l.length := by omega
  unfold rd
  rw [List.getD_eq_getElem?_getD, List.getElem?_eq_getElem this]
  exact List.getElem_mem this
theorem mem_at15 {l : List Int} {n : Int} (h : n ∈ l) : ∃ i : Int, 0 ≤ i ∧ i < (l.length : Int) ∧ rd l i = n := by
  obtain ⟨i, hi, he⟩ := List.mem_iff_getElem.1 h
  exact ⟨(i : Int), by omega, by omega, by unfold rd; rw [Int.toNat_natCast, List.getD_eq_getElem?_getD, List.getElem?_eq_getElem hi]; exact he⟩
theorem LiveFlows : palinglaw15_LiveFlows.Pure := by
  intro l hl0 hw0
  suffices h : Ev (fun k => palinglaw15_LiveFlows.f k l) true from h.rounds
  refine Ev.congr (fun k => rfl) (Ev.bind awake15 (Ev.tt (Ev.bind (small_spec l (by omega)) ?_)))
  cases hs : smallB l with
  | false => exact Ev.neg (by simp) (Ev.con rfl)
  | true =>
    obtain ⟨h30, hsm⟩ := small_facts hs
    obtain ⟨A, B, he, hF⟩ := flow_spec l (by omega)
    have hwA := hF.wfA (by omega) hsm
    have hwB := hF.wfB (by omega) hsm
    have hwR := hF.wfR (by omega) hsm
    refine Ev.pos rfl (Ev.bind (ahead_spec he hwA) (Ev.bind (behind_spec he hwB) (Ev.bind (ranges_spec he (by omega) hwR) ?_)))
    obtain ⟨_, _, k3⟩ := ranges_facts hF
    have hmM : ∀ (i : Nat) (r : Int), i < l.length → r ∈ A.getD i [] → ∃ x ∈ rangesL l A B, x.f0 = r ∧ x.f1 ≤ (i : Int) ∧ (i : Int) ≤ x.f2 := fun i r hi hr => k3 i r hi ((mem_hereL hF.uA i r).2 (.inl hr))
    obtain ⟨M, hM⟩ : ∃ M, M = rangesL l A B := ⟨_, rfl⟩
    rw [← hM] at hmM hwR ⊢
    have hMl := hwR.1
    have hA := hF.lA
    have hB := hF.lB
    refine (up_ind (n := l.length) (P := fun i => Ev (fun k => palinglaw15_LiveFlows.l0 k l A B M i) true) ?_ ?_) 0 (by omega) (by omega)
    · exact Ev.step (fun k => rfl) (Ev.neg (by omega) (Ev.con rfl))
    intro i i0 i1 ih
    have hil : i.toNat < l.length := by omega
    rw [← wrap_up i0 i1 (by omega)] at ih
    have hra : rd_L5 A i = A.getD i.toNat [] := rfl
    have hrb : rd_L5 B i = B.getD i.toNat [] := rfl
    have hci : ((i.toNat : Nat) : Int) = i := by omega
    have mA := hF.mA i.toNat hil
    have mB := hF.mB i.toNat hil
    have mM := fun r hr => hmM i.toNat r hil hr
    have nA := hF.nA i.toNat
    have nB := hF.nB i.toNat
    rw [hci] at mB mM
    have hx : l.getD i.toNat z39 = rd_T39 l i := rfl
    unfold UL DL at mA
    rw [hx] at mA
    have hu3 := useQ_len (rd_T39 l i)
    refine Ev.step (fun k => rfl) (Ev.pos i1 (Ev.pos i0 (Ev.bind (luses_spec _) (Ev.bind (ldef_spec _) ?_))))
    generalize useQ (rd_T39 l i) = us at mA hu3 ⊢
    generalize defQ (rd_T39 l i) = d at mA ⊢
    obtain ⟨ai, hai⟩ : ∃ ai, ai = A.getD i.toNat [] := ⟨_, rfl⟩
    obtain ⟨bi, hbi⟩ : ∃ bi, bi = B.getD i.toNat [] := ⟨_, rfl⟩
    rw [← hai] at mA mM nA hra
    rw [← hbi] at mB mA nB hrb
    -- what is needed behind the place
    have behind : ∀ j : Int, 0 ≤ j → j ≤ (bi.length : Int) → Ev (fun k => palinglaw15_LiveFlows.l4 k l A B M i d (nxL l i) j) true := by
      refine up_ind ?_ ?_
      · refine Ev.step (fun k => rfl) (Ev.pos i0 (Ev.pos (by omega) ?_))
        rw [hrb]
        exact Ev.neg (by omega) ih
      · intro j j0 j1 ihj
        rw [← wrap_up j0 j1 (by omega)] at ihj
        refine Ev.step (fun k => rfl) (Ev.pos i0 (Ev.pos (by omega) ?_))
        rw [hrb]
        refine Ev.pos j1 (Ev.pos j0 ?_)
        have hm := mem_rd15 j0 j1
        generalize rd bi j = n at hm ⊢
        obtain ⟨m0, hm0, hn0⟩ := (mB n).1 hm
        obtain ⟨q0, hq0, hq1, hq⟩ := mem_at15 hm0
        have nl := nxL_len l i
        have inner : ∀ q : Int, 0 ≤ q → q ≤ ((nxL l i).length : Int) → ∀ f : Bool, (f = true ∨ q ≤ q0) → Ev (fun k => palinglaw15_LiveFlows.l5 k l A B M i d (nxL l i) j n f q) true := by
          refine up_ind ?_ ?_
          · intro f hf
            have : f = true := by
              rcases hf with h | h
              · exact h
              · omega
            subst this
            refine Ev.step (fun k => rfl) (Ev.neg (by omega) (Ev.pos rfl ?_))
            by_cases hnd : n = d
            · exact Ev.pos hnd ihj
            · refine Ev.neg hnd (Ev.pos i0 (Ev.pos (by omega) (Ev.bind (lhas_spec _ _ (by rw [hra]; omega)) ?_)))
              rw [hra]
              exact Ev.pos (decide_eq_true ((mA n).2 (.inr ⟨hm, hnd⟩))) ihj
          · intro q q0' q1' ihq f hf
            rw [← wrap_up q0' q1' (by omega)] at ihq
            refine Ev.step (fun k => rfl) (Ev.pos q1' ?_)
            cases f with
            | true => exact Ev.pos rfl (ihq true (.inl rfl))
            | false =>
              have hin := nxL_in l i _ (mem_rd15 q0' q1')
              refine Ev.neg (by simp) (Ev.pos q0' (Ev.pos hin.1 (Ev.pos (by omega) (Ev.bind (lhas_spec _ _ ?_) ?_))))
              · have := hF.nA (rd (nxL l i) q).toNat
                show (A.getD (rd (nxL l i) q).toNat []).length ≤ _
                omega
              · refine ihq _ ?_
                rcases hf with h | h
                · exact absurd h (by simp)
                · by_cases e : q = q0
                  · left
                    subst e
                    rw [hq]
                    exact decide_eq_true hn0
                  · right
                    rw [wrap_up q0' q1' (by omega)]
                    omega
        exact inner 0 (by omega) (by omega) false (.inr hq0)
    -- what is needed ahead of it
    have ahead : ∀ j : Int, 0 ≤ j → j ≤ (ai.length : Int) → Ev (fun k => palinglaw15_LiveFlows.l2 k l A B M i us d j) true := by
      refine up_ind ?_ ?_
      · refine Ev.step (fun k => rfl) (Ev.pos i0 (Ev.pos (by omega) ?_))
        rw [hra]
        exact Ev.neg (by omega) (Ev.bind (lrefnext_spec l (by omega) i i0 i1) (behind 0 (by omega) (by omega)))
      · intro j j0 j1 ihj
        rw [← wrap_up j0 j1 (by omega)] at ihj
        refine Ev.step (fun k => rfl) (Ev.pos i0 (Ev.pos (by omega) ?_))
        rw [hra]
        refine Ev.pos j1 (Ev.pos j0 ?_)
        have hm := mem_rd15 j0 j1
        generalize rd ai j = n at hm ⊢
        obtain ⟨x0, hx0, e0, e1, e2⟩ := mM n hm
        obtain ⟨q0, hq0, hq⟩ := List.mem_iff_getElem.1 hx0
        have inner : ∀ q : Int, 0 ≤ q → q ≤ (M.length : Int) → ∀ f : Bool, (f = true ∨ q ≤ (q0 : Int)) → Ev (fun k => palinglaw15_LiveFlows.l3 k l A B M i us d j n f q) true := by
          refine up_ind ?_ ?_
          · intro f hf
            have : f = true := by
              rcases hf with h | h
              · exact h
              · omega
            subst this
            refine Ev.step (fun k => rfl) (Ev.neg (by omega) (Ev.pos rfl (Ev.bind (lhas_spec _ _ (by omega)) ?_)))
            by_cases hu : n ∈ us
            · exact Ev.pos (decide_eq_true hu) ihj
            · have h2 : n ∈ bi ∧ n ≠ d := by
                rcases (mA n).1 hm with h | h
                · exact absurd h hu
                · exact h
              refine Ev.neg (by simp [hu]) (Ev.pos i0 (Ev.pos (by omega) (Ev.bind (lhas_spec _ _ (by rw [hrb]; omega)) ?_)))
              rw [hrb]
              exact Ev.pos (decide_eq_true h2.1) (Ev.neg (fun e => h2.2 e.symm) ihj)
          · intro q q0' q1' ihq f hf
            rw [← wrap_up q0' q1' (by omega)] at ihq
            refine Ev.step (fun k => rfl) (Ev.pos q1' ?_)
            cases f with
            | true => exact Ev.pos rfl (ihq true (.inl rfl))
            | false =>
              refine Ev.neg (by simp) (Ev.pos q0' ?_)
              have hnext : ∀ f : Bool, (q = (q0 : Int) → f = true) → f = true ∨ wrap64 (q + 1) ≤ (q0 : Int) := fun f hh => by
                rw [wrap_up q0' q1' (by omega)]
                rcases hf with h | h
                · exact absurd h (by simp)
                · by_cases e : q = (q0 : Int)
                  · exact .inl (hh e)
                  · right; omega
              have hat : q = (q0 : Int) → rd_T30 M q = x0 := fun e => by
                subst e
                unfold rd_T30
                rw [Int.toNat_natCast, List.getD_eq_getElem?_getD, List.getElem?_eq_getElem hq0]
                exact hq
              by_cases c1 : (rd_T30 M q).f0 = n
              · refine Ev.pos c1 ?_
                by_cases c2 : (rd_T30 M q).f1 ≤ i
                · refine Ev.pos c2 (ihq _ (hnext _ (fun e => ?_)))
                  rw [hat e]
                  exact decide_eq_true e2
                · refine Ev.neg c2 (ihq _ (hnext _ (fun e => ?_)))
                  rw [hat e] at c2
                  exact absurd e1 c2
              · refine Ev.neg c1 (ihq _ (hnext _ (fun e => ?_)))
                rw [hat e] at c1
                exact absurd e0 c1
        exact inner 0 (by omega) (by omega) false (.inr (by omega))
    -- what is read there
    have reads : ∀ j : Int, 0 ≤ j → j ≤ (us.length : Int) → Ev (fun k => palinglaw15_LiveFlows.l1 k l A B M i us d j) true := by
      refine up_ind ?_ ?_
      · exact Ev.step (fun k => rfl) (Ev.neg (by omega) (ahead 0 (by omega) (by omega)))
      · intro j j0 j1 ihj
        rw [← wrap_up j0 j1 (by omega)] at ihj
        refine Ev.step (fun k => rfl) (Ev.pos j1 (Ev.pos i0 (Ev.pos (by omega) (Ev.pos j0 (Ev.bind (lhas_spec _ _ (by rw [hra]; omega)) ?_)))))
        rw [hra]
        exact Ev.pos (decide_eq_true ((mA _).2 (.inl (mem_rd15 j0 j1)))) ihj
    exact reads 0 (by omega) (by omega)
end Go.Proofs.YtianfjhhhhmjlaaDoor.Pure
