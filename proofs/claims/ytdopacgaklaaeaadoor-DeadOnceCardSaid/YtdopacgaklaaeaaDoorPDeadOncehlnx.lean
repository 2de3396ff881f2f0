import Derived.Test.YtdopacgaklaaeaaDoorPDeadOncex0
import Derived.Test.YtdopacgaklaaeaaDoorPDeadOncehforms
import Derived.Test.YtdopacgaklaaeaaDoorPDeadOncehgnx
import Derived.Test.YtdopacgaklaaeaaDoorPDeadOncehplain0
import Derived.Lib.RowBridge
namespace Go.Proofs.YtdopacgaklaaeaaDoor.PDeadOnce
open Go.RowKit Go.Proofs.YtdopacgaklaaeaaDoorW.PrintWords Go.Proofs.YtdopacgaklaaeaaDoorW.PrintLast Go.Proofs.YtdopacgaklaaeaaDoorW.PrintMore
set_option linter.unusedVariables false
set_option linter.unusedSimpArgs false
open Go.Shelf
/-! Where an instruction goes to, by package live and by the document. -/
/-- where the instruction at i goes to in its code -/
def nxL (l : List S28) (i : Int) : List Int := if 0 ≤ i ∧ i < (l.length : Int) then (live_next.f l i).getD [] else []
theorem twoL_len15 (a b : Int) : (twoL a b).length ≤ 2 := by
  unfold twoL
  refine Nat.le_trans (Lib.compact_length_le _) ?_
  rw [List.length_mergeSort]; simp
theorem live_next_some (l : List S28) (i : Int) (h0 : 0 ≤ i) (h1 : i < (l.length : Int)) : live_next.f l i = some (nxL l i) := by
  unfold nxL
  rw [if_pos ⟨h0, h1⟩]
  unfold live_next.f ins_Next.f
  rw [if_pos ⟨h0, h1⟩, Option.bind_some]
  rw [if_pos ?_]
  · rfl
  · split
    · simp
    · split
      · simp
      · split
        · have := twoL_len15 (wrap64 (i + 1)) (rd_T28 l i).f6; omega
        · simp
theorem nxL_in (l : List S28) (i : Int) : ∀ j ∈ nxL l i, 0 ≤ j ∧ j < (l.length : Int) := by
  intro j hj
  by_cases h : 0 ≤ i ∧ i < (l.length : Int)
  · have he := live_next_some l i h.1 h.2
    unfold live_next.f at he
    rw [if_pos h] at he
    obtain ⟨L, _, h2⟩ := Option.bind_eq_some_iff.1 he
    by_cases hL : L.length ≤ 1000000
    · rw [if_pos hL] at h2
      rw [← Option.some.inj h2] at hj
      have := (List.mem_filter.1 hj).2
      unfold linB at this
      simp at this
      omega
    · rw [if_neg hL] at h2; exact absurd h2 (by simp)
  · unfold nxL at hj
    rw [if_neg h] at hj
    exact absurd hj (by simp)
theorem insNext_len15 {a0 a1 a2 a3 a4 a5 a6 b : Int} {L : List Int} (h : ins_Next.f a0 a1 a2 a3 a4 a5 a6 b = some L) : L.length ≤ 2 := by
  unfold ins_Next.f at h
  rw [← Option.some.inj h]
  split
  · simp
  · split
    · simp
    · split
      · exact twoL_len15 _ _
      · simp
theorem nxL_len (l : List S28) (i : Int) : (nxL l i).length ≤ 2 := by
  by_cases h : 0 ≤ i ∧ i < (l.length : Int)
  · have he := live_next_some l i h.1 h.2
    unfold live_next.f at he
    rw [if_pos h] at he
    obtain ⟨L, h1, h2⟩ := Option.bind_eq_some_iff.1 he
    by_cases hL : L.length ≤ 1000000
    · rw [if_pos hL] at h2
      rw [← Option.some.inj h2]
      exact Nat.le_trans (List.length_filter_le _ _) (insNext_len15 h1)
    · rw [if_neg hL] at h2; exact absurd h2 (by simp)
  · unfold nxL
    rw [if_neg h]
    simp
/-- where an instruction goes to -/
def nyV (y : S28) (i : Int) : List Int := if ¬ (0 ≤ y.f0 ∧ y.f0 < 14) ∨ fmB 9 y.f0 = true then [] else if y.f0 = 6 then [y.f6] else if y.f0 = 7 then twoL (i + 1) y.f6 else [i + 1]
theorem nyV_f (y : S28) (i : Int) (h : wrap64 (i + 1) = i + 1) : ins_Next.f y.f0 y.f1 y.f2 y.f3 y.f4 y.f5 y.f6 i = some (nyV y i) := by
  unfold ins_Next.f nyV
  rw [h]
theorem nyV_len (y : S28) (i : Int) : (nyV y i).length ≤ 2 := by
  unfold nyV
  split
  · simp
  · split
    · simp
    · split
      · exact twoL_len15 _ _
      · simp
theorem nxL_nyV (l : List S28) (hl : l.length ≤ 1000) (i : Int) (h0 : 0 ≤ i) (h1 : i < (l.length : Int)) : nxL l i = (nyV (rd_T28 l i) i).filter fun x => !linB l.length x := by
  have hw : wrap64 (i + 1) = i + 1 := wrap_up h0 h1 (by omega)
  have h := live_next_some l i h0 h1
  unfold live_next.f at h
  rw [if_pos ⟨h0, h1⟩, nyV_f _ i hw, Option.bind_some, if_pos (by have := nyV_len (rd_T28 l i) i; omega)] at h
  exact (Option.some.inj h).symm
end Go.Proofs.YtdopacgaklaaeaaDoor.PDeadOnce
