import Derived.Test.YtdopacgaklaaeaaDoorPDeadRunsx0
import Derived.Test.YtdopacgaklaaeaaDoorPDeadRunshgnx
import Derived.Lib.SlicesCompact
import Derived.Test.YtdopacgaklaaeaaDoorPDeadRunsx7
import Derived.Test.YtdopacgaklaaeaaDoorPDeadRunshplain0
namespace Go.Proofs.YtdopacgaklaaeaaDoor.PDeadRuns
open Go.RowKit Go.Proofs.YtdopacgaklaaeaaDoorW.PrintWords Go.Proofs.YtdopacgaklaaeaaDoorW.PrintLast Go.Proofs.YtdopacgaklaaeaaDoorW.PrintMore
set_option linter.unusedVariables false
set_option linter.unusedSimpArgs false
/-! Sorted and compacted: rising, each once. -/
theorem compactUpTo_spec (d : Array Int) (hs : ∀ i j, i ≤ j → j < d.size → d[i]! ≤ d[j]!) : ∀ m, m ≤ d.size → (Lib.compactUpTo d m).Pairwise (· < ·) ∧ ∀ i, i ∈ Lib.compactUpTo d m ↔ ∃ j, j < m ∧ d[j]! = i
  | 0, _ => by simp [Lib.compactUpTo]
  | m + 1, hm => by
    obtain ⟨h1, h2⟩ := compactUpTo_spec d hs m (by omega)
    rw [Lib.compactUpTo_succ]
    by_cases hk : Lib.keeps d m = true
    · rw [if_pos hk]
      constructor
      · rw [List.pairwise_append]
        refine ⟨h1, by simp, ?_⟩
        intro a ha b hb
        obtain rfl : b = d[m]! := by simpa using hb
        obtain ⟨j, hj, rfl⟩ := (h2 a).1 ha
        have e1 := hs j (m - 1) (by omega) (by omega)
        have e2 := hs (m - 1) m (by omega) (by omega)
        have e3 : d[m]! ≠ d[m - 1]! := by
          intro e
          rw [Lib.keeps_neg (by omega) e] at hk
          exact absurd hk (by simp)
        omega
      · intro i
        rw [List.mem_append, h2]
        constructor
        · rintro (⟨j, hj, e⟩ | h)
          · exact ⟨j, by omega, e⟩
          · exact ⟨m, by omega, (by simpa using h : i = d[m]!).symm⟩
        · rintro ⟨j, hj, e⟩
          by_cases hjm : j = m
          · subst hjm; exact .inr (by simp [e])
          · exact .inl ⟨j, by omega, e⟩
    · rw [if_neg hk, List.append_nil]
      refine ⟨h1, fun i => ?_⟩
      rw [h2]
      have hm0 : 0 < m := by
        rcases Nat.eq_zero_or_pos m with h0 | h0
        · subst h0; exact absurd (Lib.keeps_lt_one d 0 (by omega)) hk
        · exact h0
      have e3 : d[m]! = d[m - 1]! := by
        by_cases e : d[m]! = d[m - 1]!
        · exact e
        · exact absurd (Lib.keeps_pos e) hk
      constructor
      · rintro ⟨j, hj, e⟩; exact ⟨j, by omega, e⟩
      · rintro ⟨j, hj, e⟩
        by_cases hjm : j = m
        · subst hjm; exact ⟨j - 1, by omega, by rw [← e, e3]⟩
        · exact ⟨j, by omega, e⟩
theorem compact_sorted (S : List Int) (hp : S.Pairwise (· ≤ ·)) : (Lib.compact S).Pairwise (· < ·) ∧ ∀ i, i ∈ Lib.compact S ↔ i ∈ S := by
  have hg : ∀ j, j < S.length → S.toArray[j]! = S.getD j 0 := fun j hj => by simp [hj]
  have h := compactUpTo_spec S.toArray (fun i j hij hj => by
    have hj' : j < S.length := by simpa using hj
    rw [hg i (by omega), hg j hj']
    by_cases e : i = j
    · subst e; omega
    · have := List.pairwise_iff_getElem.1 hp i j (by omega) hj' (by omega)
      simpa [List.getD_eq_getElem?_getD, hj', show i < S.length by omega] using this) S.length (by simp)
  refine ⟨h.1, fun i => ?_⟩
  unfold Lib.compact
  rw [h.2, List.mem_iff_getElem]
  constructor
  · rintro ⟨j, hj, e⟩
    refine ⟨j, hj, ?_⟩
    rw [← e, hg j hj]
    simp [hj]
  · rintro ⟨j, hj, e⟩
    refine ⟨j, hj, ?_⟩
    rw [← e, hg j hj]
    simp [hj]
theorem sort_le (L : List Int) : (L.mergeSort (fun x y => decide (x ≤ y))).Pairwise (· ≤ ·) := by
  have := List.pairwise_mergeSort (le := fun x y : Int => decide (x ≤ y)) (fun a b c h1 h2 => by simp at *; omega) (fun a b => by simp; omega) L
  exact this.imp (fun h => by simpa using h)
theorem compact_sort (L : List Int) : (Lib.compact (L.mergeSort (fun x y => decide (x ≤ y)))).Pairwise (· < ·) ∧ ∀ i, i ∈ Lib.compact (L.mergeSort (fun x y => decide (x ≤ y))) ↔ i ∈ L := by
  have h := compact_sorted _ (sort_le L)
  exact ⟨h.1, fun i => by rw [h.2, List.mem_mergeSort]⟩
theorem rising_ext : ∀ {L M : List Int}, L.Pairwise (· < ·) → M.Pairwise (· < ·) → (∀ i, i ∈ L ↔ i ∈ M) → L = M
  | [], [], _, _, _ => rfl
  | [], m :: M, _, _, h => absurd ((h m).2 (by simp)) (by simp)
  | l :: L, [], _, _, h => absurd ((h l).1 (by simp)) (by simp)
  | l :: L, m :: M, hl, hm, h => by
    rw [List.pairwise_cons] at hl hm
    have e : l = m := by
      have h1 := (h l).1 (by simp)
      have h2 := (h m).2 (by simp)
      rw [List.mem_cons] at h1 h2
      rcases h1 with h1 | h1
      · exact h1
      · rcases h2 with h2 | h2
        · exact h2.symm
        · have := hl.1 m h2; have := hm.1 l h1; omega
    subst e
    rw [rising_ext hl.2 hm.2 (fun i => by
      have := h i
      rw [List.mem_cons, List.mem_cons] at this
      constructor
      · intro hi
        rcases this.1 (.inr hi) with rfl | hx
        · exact absurd (hl.1 _ hi) (by omega)
        · exact hx
      · intro hi
        rcases this.2 (.inr hi) with rfl | hx
        · exact absurd (hm.1 _ hi) (by omega)
        · exact hx)]
theorem twoL_spec (a b : Int) : (twoL a b).Pairwise (· < ·) ∧ ∀ i, i ∈ twoL a b ↔ i = a ∨ i = b := by
  have h := compact_sort [a, b]
  refine ⟨h.1, fun i => ?_⟩
  unfold twoL
  rw [h.2]
  simp
end Go.Proofs.YtdopacgaklaaeaaDoor.PDeadRuns

namespace Go.Proofs.YtdopacgaklaaeaaDoor.PDeadRuns
open Go.RowKit Go.Proofs.YtdopacgaklaaeaaDoorW.PrintWords Go.Proofs.YtdopacgaklaaeaaDoorW.PrintLast Go.Proofs.YtdopacgaklaaeaaDoorW.PrintMore
set_option linter.unusedVariables false
set_option linter.unusedSimpArgs false
/-! The reference's instructions (palingref11), in plain words. -/
def hasC (s : ByteArray) (c : Int) : Bool := s.data.toList.any (fun b => ((b.toNat : Nat) : Int) == c)
theorem bt_get (s : ByteArray) (i : Int) (h0 : 0 ≤ i) (h1 : i < s.size) : s.data.toList.drop i.toNat = (s.data.toList.getD i.toNat 0) :: s.data.toList.drop (i.toNat + 1) ∧ bt s i = ((s.data.toList.getD i.toNat 0).toNat : Nat) := by
  have hl : i.toNat < s.data.toList.length := by rw [Array.length_toList]; show i.toNat < s.size; omega
  refine ⟨getD_drop _ 0 _ hl, ?_⟩
  have hs : i.toNat < s.size := by omega
  unfold bt
  rw [dif_pos hs]
  congr 2
  rw [List.getD_eq_getElem?_getD, List.getElem?_eq_getElem hl]
  rfl
theorem has_spec (s : ByteArray) (c : Int) (hs : s.size ≤ 4611686018427387904) : Ev (fun k => palingref11_Has.f k s c) (hasC s c) := by
  have key : ∀ i : Int, 0 ≤ i → i ≤ s.size → Ev (fun k => palingref11_Has.l0 k s c i) ((s.data.toList.drop i.toNat).any (fun b => ((b.toNat : Nat) : Int) == c)) := by
    refine up_ind ?_ ?_
    · refine Ev.step (fun k => rfl) (Ev.neg (by omega) (Ev.con ?_))
      rw [List.drop_eq_nil_of_le (by rw [Array.length_toList]; show s.size ≤ _; omega)]
      rfl
    · intro i h0 h1 ih
      obtain ⟨hd, hb⟩ := bt_get s i h0 h1
      refine Ev.step (fun k => rfl) (Ev.pos h1 (Ev.pos h0 ?_))
      rw [hd, List.any_cons]
      by_cases hq : bt s i = c
      · refine Ev.pos hq (Ev.con ?_)
        rw [← hb, hq]; simp
      · refine Ev.neg hq ?_
        rw [wrap_up h0 h1 hs]
        rw [show (i + 1).toNat = i.toNat + 1 by omega] at ih
        rw [← hb, show (bt s i == c) = false by simpa using hq, Bool.false_or]
        exact ih
  simpa [hasC, palingref11_Has.f] using key 0 (by omega) (by omega)
def fldB (a0 : Int) : ByteArray := if 0 ≤ a0 ∧ a0 < 14 then rdOf ByteArray.empty ([(⟨#[68, 78]⟩ : ByteArray), (⟨#[68, 65]⟩ : ByteArray), (⟨#[68, 79, 65, 66]⟩ : ByteArray), (⟨#[68, 65, 66]⟩ : ByteArray), (⟨#[68, 65, 78]⟩ : ByteArray), (⟨#[65, 66, 78]⟩ : ByteArray), (⟨#[84]⟩ : ByteArray), (⟨#[65, 84]⟩ : ByteArray), (⟨#[46]⟩ : ByteArray), (⟨#[78]⟩ : ByteArray), (⟨#[78]⟩ : ByteArray), (⟨#[65]⟩ : ByteArray), (⟨#[78]⟩ : ByteArray), (⟨#[46]⟩ : ByteArray)] : List ByteArray) a0 else ⟨#[]⟩
theorem fields_spec (a0 : Int) : palingref11_fields.f a0 = some (fldB a0) := by
  unfold palingref11_fields.f fldB
  simp only [Option.bind_some, List.length_cons, List.length_nil]
  by_cases h0 : a0 < 0
  · rw [if_pos h0, if_neg (by omega)]
  · by_cases h1 : a0 ≥ 14
    · rw [if_neg h0, if_pos (by simpa using h1), if_neg (by omega)]
    · rw [if_neg h0, if_neg (by simpa using h1), if_pos (by omega), if_pos (by omega), if_pos (by omega)]
theorem kind_cases {P : Int → Prop} (a0 : Int) (h : 0 ≤ a0 ∧ a0 < 14) (h0 : P 0) (h1 : P 1) (h2 : P 2) (h3 : P 3) (h4 : P 4) (h5 : P 5) (h6 : P 6) (h7 : P 7) (h8 : P 8) (h9 : P 9) (h10 : P 10) (h11 : P 11) (h12 : P 12) (h13 : P 13) : P a0 := by
  have : a0 = 0 ∨ a0 = 1 ∨ a0 = 2 ∨ a0 = 3 ∨ a0 = 4 ∨ a0 = 5 ∨ a0 = 6 ∨ a0 = 7 ∨ a0 = 8 ∨ a0 = 9 ∨ a0 = 10 ∨ a0 = 11 ∨ a0 = 12 ∨ a0 = 13 := by omega
  rcases this with rfl | rfl | rfl | rfl | rfl | rfl | rfl | rfl | rfl | rfl | rfl | rfl | rfl | rfl <;> assumption
/-- which fields are an instruction's own: D, A, B, Op, N, To -/
def fD (k : Int) : Bool := k == 0 || k == 1 || k == 2 || k == 3 || k == 4
def fA (k : Int) : Bool := k == 1 || k == 2 || k == 3 || k == 4 || k == 5 || k == 7 || k == 11
def fB (k : Int) : Bool := k == 2 || k == 3 || k == 5
def fO (k : Int) : Bool := k == 2
def fN (k : Int) : Bool := k == 0 || k == 4 || k == 5 || k == 9 || k == 10 || k == 12
def fT (k : Int) : Bool := k == 6 || k == 7
theorem fld_size (a0 : Int) : (fldB a0).size ≤ 4 := by
  by_cases h : 0 ≤ a0 ∧ a0 < 14
  · exact kind_cases (P := fun a => (fldB a).size ≤ 4) a0 h (by decide) (by decide) (by decide) (by decide) (by decide) (by decide) (by decide) (by decide) (by decide) (by decide) (by decide) (by decide) (by decide) (by decide)
  · unfold fldB; rw [if_neg h]; decide
theorem fld_has (a0 : Int) : hasC (fldB a0) 68 = fD a0 ∧ hasC (fldB a0) 65 = fA a0 ∧ hasC (fldB a0) 66 = fB a0 ∧ hasC (fldB a0) 79 = fO a0 ∧ hasC (fldB a0) 78 = fN a0 ∧ hasC (fldB a0) 84 = fT a0 ∧ ((fldB a0).data.toList = [] ↔ ¬ (0 ≤ a0 ∧ a0 < 14)) := by
  by_cases h : 0 ≤ a0 ∧ a0 < 14
  · exact kind_cases (P := fun a0 => hasC (fldB a0) 68 = fD a0 ∧ hasC (fldB a0) 65 = fA a0 ∧ hasC (fldB a0) 66 = fB a0 ∧ hasC (fldB a0) 79 = fO a0 ∧ hasC (fldB a0) 78 = fN a0 ∧ hasC (fldB a0) 84 = fT a0 ∧ ((fldB a0).data.toList = [] ↔ ¬ (0 ≤ a0 ∧ a0 < 14))) a0 h (by decide) (by decide) (by decide) (by decide) (by decide) (by decide) (by decide) (by decide) (by decide) (by decide) (by decide) (by decide) (by decide) (by decide)
  · have : fldB a0 = ⟨#[]⟩ := by unfold fldB; rw [if_neg h]
    rw [this]
    refine ⟨?_, ?_, ?_, ?_, ?_, ?_, ?_⟩
    · simp [hasC, fD]; omega
    · simp [hasC, fA]; omega
    · simp [hasC, fB]; omega
    · simp [hasC, fO]; omega
    · simp [hasC, fN]; omega
    · simp [hasC, fT]; omega
    · exact ⟨fun _ => h, fun _ => rfl⟩
end Go.Proofs.YtdopacgaklaaeaaDoor.PDeadRuns
