import Derived.Test.YtdopacgaklaaeaaDoorPDeadTellsx0
import Derived.Test.YtdopacgaklaaeaaDoorPDeadTellsx4
import Derived.Test.YtdopacgaklaaeaaDoorPDeadTellshplain0
import Derived.Test.YtdopacgaklaaeaaDoorPDeadTellsx2
import Derived.Test.YtdopacgaklaaeaaDoorPDeadTellsx7
import Derived.Test.YtdopacgaklaaeaaDoorPDeadTellshchk
import Derived.Test.YtdopacgaklaaeaaDoorPDeadTellshdsp
import Derived.Test.YtdopacgaklaaeaaDoorPDeadTellshforms
import Derived.KernelRfl
namespace Go.Proofs.YtdopacgaklaaeaaDoor.PDeadTells
open Go.RowKit Go.Proofs.YtdopacgaklaaeaaDoorW.PrintWords Go.Proofs.YtdopacgaklaaeaaDoorW.PrintLast Go.Proofs.YtdopacgaklaaeaaDoorW.PrintMore
set_option linter.unusedVariables false
set_option linter.unusedSimpArgs false
theorem same13_spec (a : List S28) (ha : a.length ≤ 1000000) : Ev (fun k => palingref13_Same.f k a a) true := by
  have main : ∀ i : Int, 0 ≤ i → i ≤ a.length → Ev (fun k => palingref13_Same.l0 k a a i) true := by
    refine up_ind ?_ ?_
    · exact Ev.step (fun k => rfl) (Ev.neg (by omega) (Ev.now _))
    · intro i i0 i1 ih
      have hw : wrap64 (i + 1) = i + 1 := wrap_up i0 i1 (by omega)
      rw [← hw] at ih
      exact Ev.step (fun k => rfl) (Ev.pos i1 (Ev.pos i0 (Ev.pos i1 (Ev.neg (by simp) ih))))
  exact Ev.congr (fun k => rfl) (Ev.pos rfl (main 0 (by omega) (by omega)))
end Go.Proofs.YtdopacgaklaaeaaDoor.PDeadTells

namespace Go.Proofs.YtdopacgaklaaeaaDoor.PDeadTells
open Go.RowKit Go.Proofs.YtdopacgaklaaeaaDoorW.PrintWords Go.Proofs.YtdopacgaklaaeaaDoorW.PrintLast Go.Proofs.YtdopacgaklaaeaaDoorW.PrintMore
set_option linter.unusedVariables false
set_option linter.unusedSimpArgs false
theorem bools_same (a : List Bool) (ha : a.length ≤ 1000000) : Ev (fun k => palingref14_Bools.f k a a) true := by
  have main : ∀ i : Int, 0 ≤ i → i ≤ (a.length : Int) → Ev (fun k => palingref14_Bools.l0 k a a i) true := by
    refine up_ind (n := a.length) ?_ ?_
    · refine Ev.step (f := fun _ => some true) (fun k => ?_) (Ev.now _)
      show (if ((a.length : Nat) : Int) < (a.length : Int) then _ else some true) = some true
      rw [if_neg (by omega)]
    · intro i i0 i1 ih
      have hw : wrap64 (i + 1) = i + 1 := wrap_up i0 i1 (by omega)
      refine Ev.step (fun k => rfl) (Ev.pos i1 (Ev.pos i0 (Ev.pos i1 (Ev.neg (by simp) ?_))))
      rw [hw]; exact ih
  exact Ev.congr (fun k => rfl) (Ev.pos rfl (main 0 (by omega) (by omega)))
end Go.Proofs.YtdopacgaklaaeaaDoor.PDeadTells

namespace Go.Proofs.YtdopacgaklaaeaaDoor.PDeadTells
open Go.RowKit Go.Proofs.YtdopacgaklaaeaaDoorW.PrintWords Go.Proofs.YtdopacgaklaaeaaDoorW.PrintLast Go.Proofs.YtdopacgaklaaeaaDoorW.PrintMore
set_option linter.unusedVariables false
set_option linter.unusedSimpArgs false
/-! The document's example of chapter 18, and what a checked code is. -/
theorem awake18 : Ev (fun k => palinglaw18_awake.f k) true := Ev.of palinglaw18_awake.mono (k := 20) (by decide +kernel)
theorem ok_of_check {l : List S28} (h : checkB l 30 9 = true) : OK18 l ∧ (∀ x ∈ l, 0 ≤ x.f0 ∧ x.f0 < 14) ∧ 0 < l.length := by
  obtain ⟨h1, _, h3, _⟩ := check_facts h
  have key : ∀ x ∈ l, (0 ≤ x.f0 ∧ x.f0 < 14) ∧ (0 ≤ x.f2 ∧ x.f2 ≤ 30 ∧ x.f3 ≤ 30 ∧ x.f4 ≤ 30) ∧ (¬ (x.f0 = 6 ∨ x.f0 = 7) → x.f6 = 0) ∧ 0 ≤ x.f6 ∧ x.f6 < (l.length : Int) := by
    intro x hx
    have h := h3 x hx
    simp only [oneB, Bool.and_eq_true, decide_eq_true_eq] at h
    obtain ⟨a1, a2, a3, a4, _, _, _, _, a5, _, a6, a7⟩ := h
    refine ⟨a1, ⟨?_, ?_, ?_, ?_⟩, fun hk => ?_, a6, a7⟩
    · unfold regB at a2; split at a2 <;> simp at a2 <;> omega
    · unfold regB at a2; split at a2 <;> simp at a2 <;> omega
    · unfold regB at a3; split at a3 <;> simp at a3 <;> omega
    · unfold regB at a4; split at a4 <;> simp at a4 <;> omega
    · unfold fT at a5
      simp at a5
      omega
  exact ⟨fun x hx => (key x hx).2, fun x hx => (key x hx).1, by omega⟩
theorem def_none (k : Int) (h : 5 ≤ k ∧ k < 14) : fmB 1 k = false := by
  have : k = 5 ∨ k = 6 ∨ k = 7 ∨ k = 8 ∨ k = 9 ∨ k = 10 ∨ k = 11 ∨ k = 12 ∨ k = 13 := by omega
  rcases this with rfl | rfl | rfl | rfl | rfl | rfl | rfl | rfl | rfl <;> decide +kernel
end Go.Proofs.YtdopacgaklaaeaaDoor.PDeadTells
