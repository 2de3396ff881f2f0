import Derived.Test.YtdopacgaklaaeaaDoorPDeadTellsx0
import Derived.Test.YtdopacgaklaaeaaDoorPDeadTellshgnx
import Derived.Lib.SlicesCompact
import Derived.Test.YtdopacgaklaaeaaDoorPDeadTellshins
namespace Go.Proofs.YtdopacgaklaaeaaDoor.PDeadTells
open Go.RowKit Go.Proofs.YtdopacgaklaaeaaDoorW.PrintWords Go.Proofs.YtdopacgaklaaeaaDoorW.PrintLast Go.Proofs.YtdopacgaklaaeaaDoorW.PrintMore
set_option linter.unusedVariables false
set_option linter.unusedSimpArgs false
/-! Sorted and compacted: rising, each once. -/
theorem compactUpTo_spec (d : Array Int) (hs : ∀ i j, i ≤ j → j < d.size → d[i]! ≤ d[j]!) : ∀ m, m ≤ d.size → (Lib.compactUpTo d m).Pairwise (· < ·) ∧ ∀ i, i ∈ Lib.compactUpTo d m ↔ ∃ j, j < m ∧ d[j]! = i
  | 0, _ => by simp [Lib.compactUpTo]
  | m + 1, hm => by
    obtain ⟨h1, h2⟩ := compactUpTo_spec d hs m (by omega)
    rw [Lib.compactUpTo_succ]
    by_cases hk : Lib.keeps d m = true
    · rw [if_pos hk]
      constructor
      · rw [List.pairwise_append]
        refine ⟨h1, by simp, ?_⟩
        intro a ha b hb
        obtain rfl : b = d[m]! := by simpa using hb
        obtain ⟨j, hj, rfl⟩ := (h2 a).1 ha
        have e1 := hs j (m - 1) (by omega) (by omega)
        have e2 := hs (m - 1) m (by omega) (by omega)
        have e3 : d[m]! ≠ d[m - 1]! := by
          intro e
          rw [Lib.keeps_neg (by omega) e] at hk
          exact absurd hk (by simp)
        omega
      · intro i
        rw [List.mem_append, h2]
        constructor
        · rintro (⟨j, hj, e⟩ | h)
          · exact ⟨j, by omega, e⟩
          · exact ⟨m, by omega, (by simpa using h : i = d[m]!).symm⟩
        · rintro ⟨j, hj, e⟩
          by_cases hjm : j = m
          · subst hjm; exact .inr (by simp [e])
          · exact .inl ⟨j, by omega, e⟩
    · rw [if_neg hk, List.append_nil]
      refine ⟨h1, fun i => ?_⟩
      rw [h2]
      have hm0 : 0 < m := by
        rcases Nat.eq_zero_or_pos m with h0 | h0
        · subst h0; exact absurd (Lib.keeps_lt_one d 0 (by omega)) hk
        · exact h0
      have e3 : d[m]! = d[m - 1]! := by
        by_cases e : d[m]! = d[m - 1]!
        · exact e
        · exact absurd (Lib.keeps_pos e) hk
      constructor
      · rintro ⟨j, hj, e⟩; exact ⟨j, by omega, e⟩
      · rintro ⟨j, hj, e⟩
        by_cases hjm : j = m
        · subst hjm; exact ⟨j - 1, by omega, by rw [← e, e3]⟩
        · exact ⟨j, by omega, e⟩
theorem compact_sorted (S : List Int) (hp : S.Pairwise (· ≤ ·)) : (Lib.compact S).Pairwise (· < ·) ∧ ∀ i, i ∈ Lib.compact S ↔ i ∈ S := by
  have hg : ∀ j, j < S.length → S.toArray[j]! = S.getD j 0 := fun j hj => by simp [hj]
  have h := compactUpTo_spec S.toArray (fun i j hij hj => by
    have hj' : j < S.length := by simpa using hj
    rw [hg i (by omega), hg j hj']
    by_cases e : i = j
    · subst e; omega
    · have := List.pairwise_iff_getElem.1 hp i j (by omega) hj' (by omega)
      simpa [List.getD_eq_getElem?_getD, hj', show i < S.length by omega] using this) S.length (by simp)
  refine ⟨h.1, fun i => ?_⟩
  unfold Lib.compact
  rw [h.2, List.mem_iff_getElem]
  constructor
  · rintro ⟨j, hj, e⟩
    refine ⟨j, hj, ?_⟩
    rw [← e, hg j hj]
    simp [hj]
  · rintro ⟨j, hj, e⟩
    refine ⟨j, hj, ?_⟩
    rw [← e, hg j hj]
    simp [hj]
theorem sort_le (L : List Int) : (L.mergeSort (fun x y => decide (x ≤ y))).Pairwise (· ≤ ·) := by
  have := List.pairwise_mergeSort (le := fun x y : Int => decide (x ≤ y)) (fun a b c h1 h2 => by simp at *; omega) (fun a b => by simp; omega) L
  exact this.imp (fun h => by simpa using h)
theorem compact_sort (L : List Int) : (Lib.compact (L.mergeSort (fun x y => decide (x ≤ y)))).Pairwise (· < ·) ∧ ∀ i, i ∈ Lib.compact (L.mergeSort (fun x y => decide (x ≤ y))) ↔ i ∈ L := by
  have h := compact_sorted _ (sort_le L)
  exact ⟨h.1, fun i => by rw [h.2, List.mem_mergeSort]⟩
theorem rising_ext : ∀ {L M : List Int}, L.Pairwise (· < ·) → M.Pairwise (· < ·) → (∀ i, i ∈ L ↔ i ∈ M) → L = M
  | [], [], _, _, _ => rfl
  | [], m :: M, _, _, h => absurd ((h m).2 (by simp)) (by simp)
  | l :: L, [], _, _, h => absurd ((h l).1 (by simp)) (by simp)
  | l :: L, m :: M, hl, hm, h => by
    rw [List.pairwise_cons] at hl hm
    have e : l = m := by
      have h1 := (h l).1 (by simp)
      have h2 := (h m).2 (by simp)
      rw [List.mem_cons] at h1 h2
      rcases h1 with h1 | h1
      · exact h1
      · rcases h2 with h2 | h2
        · exact h2.symm
        · have := hl.1 m h2; have := hm.1 l h1; omega
    subst e
    rw [rising_ext hl.2 hm.2 (fun i => by
      have := h i
      rw [List.mem_cons, List.mem_cons] at this
      constructor
      · intro hi
        rcases this.1 (.inr hi) with rfl | hx
        · exact absurd (hl.1 _ hi) (by omega)
        · exact hx
      · intro hi
        rcases this.2 (.inr hi) with rfl | hx
        · exact absurd (hm.1 _ hi) (by omega)
        · exact hx)]
theorem twoL_spec (a b : Int) : (twoL a b).Pairwise (· < ·) ∧ ∀ i, i ∈ twoL a b ↔ i = a ∨ i = b := by
  have h := compact_sort [a, b]
  refine ⟨h.1, fun i => ?_⟩
  unfold twoL
  rw [h.2]
  simp
end Go.Proofs.YtdopacgaklaaeaaDoor.PDeadTells

namespace Go.Proofs.YtdopacgaklaaeaaDoor.PDeadTells
open Go.RowKit Go.Proofs.YtdopacgaklaaeaaDoorW.PrintWords Go.Proofs.YtdopacgaklaaeaaDoorW.PrintLast Go.Proofs.YtdopacgaklaaeaaDoorW.PrintMore
set_option linter.unusedVariables false
set_option linter.unusedSimpArgs false
/-! useRegs: rising, each once, none below 0. -/
theorem useRegs_spec (L : List Int) : (useRegs L).Pairwise (· < ·) ∧ ∀ i, i ∈ useRegs L ↔ i ∈ L ∧ 0 ≤ i := by
  have h := compact_sort (L.filter (fun x => !decide (x < 0)))
  refine ⟨h.1, fun i => ?_⟩
  unfold useRegs
  rw [h.2, List.mem_filter]
  simp
end Go.Proofs.YtdopacgaklaaeaaDoor.PDeadTells
