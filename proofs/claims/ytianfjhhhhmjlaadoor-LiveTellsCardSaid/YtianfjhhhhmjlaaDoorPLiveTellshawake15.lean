import Derived.Test.YtianfjhhhhmjlaaDoorPLiveTellsx0
import Derived.Test.YtianfjhhhhmjlaaDoorPLiveTellsx2
import Derived.Test.YtianfjhhhhmjlaaDoorPLiveTellshlahead
import Derived.Test.YtianfjhhhhmjlaaDoorPLiveTellshlflow
import Derived.Test.YtianfjhhhhmjlaaDoorPLiveTellshlgrow
import Derived.Test.YtianfjhhhhmjlaaDoorPLiveTellshlmost
import Derived.Test.YtianfjhhhhmjlaaDoorPLiveTellshlranges
import Derived.Test.YtianfjhhhhmjlaaDoorPLiveTellshlrows
import Derived.Test.YtianfjhhhhmjlaaDoorPLiveTellshlsp
import Derived.Test.YtianfjhhhhmjlaaDoorPLiveTellshlspec3
import Derived.Test.YtianfjhhhhmjlaaDoorPLiveTellshplain0
import Derived.KernelRfl
namespace Go.Proofs.YtianfjhhhhmjlaaDoor.PLiveTells
open Go.RowKit Go.Proofs.YtianfjhhhhmjlaaDoorW.PrintWords Go.Proofs.YtianfjhhhhmjlaaDoorW.PrintLast Go.Proofs.YtianfjhhhhmjlaaDoorW.PrintMore
set_option linter.unusedVariables false
set_option linter.unusedSimpArgs false
/-! The document's example of chapter 15, and what a small code is. -/
theorem awake15 : Ev (fun k => palinglaw15_awake.f k) true := Ev.of palinglaw15_awake.mono (k := 12) (by decide +kernel)
def smallB (c : List S39) : Bool := c.all (fun x => decide (x.f2 ≤ 30) && decide (x.f3 ≤ 30) && decide (x.f4 ≤ 30)) && decide (c.length ≤ 30)
theorem small_spec (c : List S39) (hc : c.length ≤ 4611686018427387904) : Ev (fun k => palinglaw15_small.f k c) (smallB c) := by
  have key : ∀ i : Int, 0 ≤ i → i ≤ (c.length : Int) → Ev (fun k => palinglaw15_small.l0 k c i) ((c.drop i.toNat).all (fun x => decide (x.f2 ≤ 30) && decide (x.f3 ≤ 30) && decide (x.f4 ≤ 30)) && decide (c.length ≤ 30)) := by
    refine up_ind ?_ ?_
    · rw [List.drop_eq_nil_of_le (by omega)]
      refine Ev.step (fun k => rfl) (Ev.neg (by omega) (Ev.con ?_))
      rw [List.all_nil, Bool.true_and]
      congr 1
      exact decide_eq_decide.2 (by omega)
    · intro i i0 i1 ih
      rw [getD_drop c z39 i.toNat (by omega), List.all_cons, show i.toNat + 1 = (i + 1).toNat by omega]
      rw [← wrap_up i0 i1 (by omega)] at ih ⊢
      refine Ev.step (fun k => rfl) (Ev.pos i1 (Ev.pos i0 ?_))
      rw [show rd_T39 c i = c.getD i.toNat z39 from rfl]
      generalize c.getD i.toNat z39 = x
      by_cases a : x.f2 > 30
      · rw [show decide (x.f2 ≤ 30) = false from decide_eq_false (by omega)]
        exact Ev.pos a (Ev.con rfl)
      · rw [show decide (x.f2 ≤ 30) = true from decide_eq_true (by omega)]
        refine Ev.neg a ?_
        by_cases b : x.f3 > 30
        · rw [show decide (x.f3 ≤ 30) = false from decide_eq_false (by omega)]
          exact Ev.pos b (Ev.con rfl)
        · rw [show decide (x.f3 ≤ 30) = true from decide_eq_true (by omega)]
          refine Ev.neg b ?_
          by_cases d : x.f4 > 30
          · rw [show decide (x.f4 ≤ 30) = false from decide_eq_false (by omega)]
            exact Ev.pos d (Ev.con rfl)
          · rw [show decide (x.f4 ≤ 30) = true from decide_eq_true (by omega)]
            exact Ev.neg d ih
  exact key 0 (by omega) (by omega)
theorem small_facts {c : List S39} (h : smallB c = true) : c.length ≤ 30 ∧ ∀ x ∈ c, x.f2 ≤ 30 ∧ x.f3 ≤ 30 ∧ x.f4 ≤ 30 := by
  unfold smallB at h
  rw [Bool.and_eq_true, List.all_eq_true, decide_eq_true_eq] at h
  refine ⟨h.2, fun x hx => ?_⟩
  have := h.1 x hx
  simp only [Bool.and_eq_true, decide_eq_true_eq] at this
  exact ⟨this.1.1, this.1.2, this.2⟩
/-- registers that are read in a small code -/
theorem small_used {c : List S39} (h : ∀ x ∈ c, x.f2 ≤ 30 ∧ x.f3 ≤ 30 ∧ x.f4 ≤ 30) : ∀ r ∈ usedQ c, 0 ≤ r ∧ r ≤ 30 := by
  intro r hr
  obtain ⟨i, hi, h1⟩ := List.mem_flatMap.1 hr
  have hil := List.mem_range.1 hi
  have hx : c.getD i z39 ∈ c := by rw [List.getD_eq_getElem?_getD, List.getElem?_eq_getElem hil]; exact List.getElem_mem _
  obtain ⟨h0, h2⟩ := (useQ_mem _ r).1 h1
  have := h _ hx
  rcases h2 with ⟨_, rfl⟩ | ⟨_, rfl⟩ | ⟨_, rfl⟩ <;> omega
theorem small_def {c : List S39} (h : ∀ x ∈ c, x.f2 ≤ 30 ∧ x.f3 ≤ 30 ∧ x.f4 ≤ 30) (i : Nat) (hi : i < c.length) : DL c i ≤ 30 := by
  have hx : c.getD i z39 ∈ c := by rw [List.getD_eq_getElem?_getD, List.getElem?_eq_getElem hi]; exact List.getElem_mem _
  have := h _ hx
  unfold DL defQ
  split <;> omega
section
variable {c : List S39} {A B : List (List Int)}
theorem FlowS.wfA (hF : FlowS c A B) (hc : c.length ≤ 1000) (h : ∀ x ∈ c, x.f2 ≤ 30 ∧ x.f3 ≤ 30 ∧ x.f4 ≤ 30) : wfRows A := by
  refine ⟨by rw [hF.lA]; omega, fun l hl => ?_⟩
  obtain ⟨i, _, rfl⟩ := row_of hl
  refine ⟨by have := hF.nA i; omega, fun x hx => ?_⟩
  have := small_used h x (hF.sgA i x hx)
  omega
theorem FlowS.wfB (hF : FlowS c A B) (hc : c.length ≤ 1000) (h : ∀ x ∈ c, x.f2 ≤ 30 ∧ x.f3 ≤ 30 ∧ x.f4 ≤ 30) : wfRows B := by
  refine ⟨by rw [hF.lB]; omega, fun l hl => ?_⟩
  obtain ⟨i, _, rfl⟩ := row_of hl
  refine ⟨by have := hF.nB i; omega, fun x hx => ?_⟩
  have := small_used h x (hF.sgB i x hx)
  omega
theorem FlowS.wfR (hF : FlowS c A B) (hc : c.length ≤ 1000) (h : ∀ x ∈ c, x.f2 ≤ 30 ∧ x.f3 ≤ 30 ∧ x.f4 ≤ 30) : wfRange (rangesL c A B) := by
  obtain ⟨k1, k2, _⟩ := ranges_facts hF
  refine ⟨by have := ranges_len hF; omega, fun x hx => ?_⟩
  obtain ⟨_, _, _, i, hi, h1⟩ := k2 x hx
  rcases (mem_hereL hF.uA i _).1 h1 with h1 | ⟨h1, h0⟩
  · have := small_used h _ (hF.sgA i _ h1); omega
  · have := small_def h i hi; omega
theorem ahead_spec (he : Ev (fun k => live_flow.f k c) (A, B)) (hw : wfRows A) : Ev (fun k => live_Ahead.f k c) A := Ev.bind he (Ev.con (if_pos hw))
theorem behind_spec (he : Ev (fun k => live_flow.f k c) (A, B)) (hw : wfRows B) : Ev (fun k => live_Behind.f k c) B := Ev.bind he (Ev.con (if_pos hw))
theorem ranges_spec (he : Ev (fun k => live_flow.f k c) (A, B)) (hc : c.length ≤ 1000) (hw : wfRange (rangesL c A B)) : Ev (fun k => live_Ranges.f k c) (rangesL c A B) := Ev.pos (by omega) (Ev.bind he (Ev.con (if_pos hw)))
theorem most_spec (he : Ev (fun k => live_flow.f k c) (A, B)) (hw : wfRows A) : Ev (fun k => live_Most.f k c) (mostL A) := Ev.bind he (Ev.con (if_pos hw))
end
end Go.Proofs.YtianfjhhhhmjlaaDoor.PLiveTells
