import Derived.Test.YtianfjhhhhmjlaaDoorPLiveBeginsx0
import Derived.Test.YtianfjhhhhmjlaaDoorPLiveBeginshcompact
import Derived.Test.YtianfjhhhhmjlaaDoorPLiveBeginshforms
import Derived.Test.YtianfjhhhhmjlaaDoorPLiveBeginshlgrow
import Derived.Test.YtianfjhhhhmjlaaDoorPLiveBeginshlnext
import Derived.Test.YtianfjhhhhmjlaaDoorPLiveBeginshlnx
import Derived.Test.YtianfjhhhhmjlaaDoorPLiveBeginshlspec
namespace Go.Proofs.YtianfjhhhhmjlaaDoor.PLiveBegins
open Go.RowKit Go.Proofs.YtianfjhhhhmjlaaDoorW.PrintWords Go.Proofs.YtianfjhhhhmjlaaDoorW.PrintLast Go.Proofs.YtianfjhhhhmjlaaDoorW.PrintMore
set_option linter.unusedVariables false
set_option linter.unusedSimpArgs false
/-! A code behind a Set of each of its registers. -/
def shiftI (n : Nat) (x : S39) : S39 := ⟨x.f0, x.f1, x.f2, x.f3, x.f4, x.f5, if x.f6 < 0 then -1 else x.f6 + (n : Int)⟩
def setI (r : Int) : S39 := ⟨0, 0, r, 0, 0, 0, 0⟩
def codeD (R : List Int) (c : List S39) : List S39 := R.map setI ++ c.map (shiftI R.length)
section
variable {R : List Int} {c : List S39}
theorem codeD_len : (codeD R c).length = R.length + c.length := by simp [codeD]
theorem codeD_set {j : Nat} (h : j < R.length) : (codeD R c).getD j z39 = setI (R.getD j 0) := by
  unfold codeD
  simp only [List.getD_eq_getElem?_getD]
  rw [List.getElem?_append_left (by simpa using h), List.getElem?_map, List.getElem?_eq_getElem h]
  rfl
theorem codeD_at {i : Nat} (h : i < c.length) : (codeD R c).getD (R.length + i) z39 = shiftI R.length (c.getD i z39) := by
  unfold codeD
  simp only [List.getD_eq_getElem?_getD]
  rw [List.getElem?_append_right (by simp), List.length_map, Nat.add_sub_cancel_left, List.getElem?_map, List.getElem?_eq_getElem h]
  rfl
theorem setUses (r : Int) : useQ (setI r) = [] := by
  refine List.eq_nil_iff_forall_not_mem.2 (fun i hi => ?_)
  obtain ⟨_, h⟩ := (useQ_mem _ i).1 hi
  have e : fmB 2 0 = false ∧ fmB 3 0 = false ∧ fmB 8 0 = false := by decide +kernel
  unfold setI at h
  simp [e.1, e.2.1, e.2.2] at h
theorem setDef (r : Int) : defQ (setI r) = r := by
  have e : fmB 1 0 = true := by decide +kernel
  unfold defQ setI
  simp [e]
theorem UL_set {j : Nat} (h : j < R.length) : UL (codeD R c) j = [] := by unfold UL; rw [codeD_set h, setUses]
theorem DL_set {j : Nat} (h : j < R.length) : DL (codeD R c) j = R.getD j 0 := by unfold DL; rw [codeD_set h, setDef]
theorem UL_at {i : Nat} (h : i < c.length) : UL (codeD R c) (R.length + i) = UL c i := by unfold UL; rw [codeD_at h]; rfl
theorem DL_at {i : Nat} (h : i < c.length) : DL (codeD R c) (R.length + i) = DL c i := by unfold DL; rw [codeD_at h]; rfl
theorem nx_set (hl : (codeD R c).length ≤ 1000) {j : Nat} (h : j < R.length) {m : Int} (hm : m ∈ nxL (codeD R c) (j : Int)) : m = (j : Int) + 1 := by
  have hlen := codeD_len (R := R) (c := c)
  rw [nxL_nyV _ hl (j : Int) (by omega) (by omega)] at hm
  have h1 := (List.mem_filter.1 hm).1
  rw [show rd_T39 (codeD R c) (j : Int) = setI (R.getD j 0) by unfold rd_T39; rw [Int.toNat_natCast]; exact codeD_set h] at h1
  unfold nyV setI at h1
  have e : fmB 9 0 = false := by decide +kernel
  simpa [e] using h1
theorem nx_at (hl : (codeD R c).length ≤ 1000) {i : Nat} (h : i < c.length) (m : Int) : m ∈ nxL (codeD R c) ((R.length + i : Nat) : Int) ↔ ∃ q ∈ nxL c (i : Int), m = q + (R.length : Int) := by
  have hlen := codeD_len (R := R) (c := c)
  rw [nxL_nyV _ hl _ (by omega) (by omega), nxL_nyV c (by omega) (i : Int) (by omega) (by omega)]
  rw [show rd_T39 (codeD R c) ((R.length + i : Nat) : Int) = shiftI R.length (rd_T39 c (i : Int)) by unfold rd_T39; rw [Int.toNat_natCast, Int.toNat_natCast]; exact codeD_at h]
  generalize rd_T39 c (i : Int) = x
  rw [hlen]
  have key : ∀ q : Int, (0 ≤ q ∧ q < (c.length : Int)) → (q + (R.length : Int) ∈ nyV (shiftI R.length x) ((R.length + i : Nat) : Int) ↔ q ∈ nyV x (i : Int)) := fun q hq => by
    unfold nyV shiftI
    simp only
    split
    · simp
    · split
      · split <;> simp <;> omega
      · split
        · rw [(twoL_spec _ _).2, (twoL_spec _ _).2]
          split <;> omega
        · simp; omega
  have low : ∀ m : Int, m ∈ nyV (shiftI R.length x) ((R.length + i : Nat) : Int) → 0 ≤ m → (R.length : Int) ≤ m := fun m hm h0 => by
    unfold nyV shiftI at hm
    simp only at hm
    split at hm
    · exact absurd hm (by simp)
    · split at hm
      · split at hm <;> simp at hm <;> omega
      · split at hm
        · rw [(twoL_spec _ _).2] at hm
          split at hm <;> omega
        · simp at hm; omega
  constructor
  · intro hm
    obtain ⟨h1, h2⟩ := List.mem_filter.1 hm
    have h2' : 0 ≤ m ∧ m < ((R.length + c.length : Nat) : Int) := by unfold linB at h2; simp at h2; omega
    have h3 := low m h1 h2'.1
    refine ⟨m - (R.length : Int), List.mem_filter.2 ⟨(key _ (by omega)).1 (by rw [Int.sub_add_cancel]; exact h1), by unfold linB; simp; omega⟩, by omega⟩
  · rintro ⟨q, hq, rfl⟩
    obtain ⟨h1, h2⟩ := List.mem_filter.1 hq
    have h2' : 0 ≤ q ∧ q < (c.length : Int) := by unfold linB at h2; simp at h2; omega
    exact List.mem_filter.2 ⟨(key q h2').2 h1, by unfold linB; simp; omega⟩
theorem need_up (hl : (codeD R c).length ≤ 1000) {r : Int} {i : Nat} (h : NeedP c r i) : NeedP (codeD R c) r (R.length + i) := by
  have hlen := codeD_len (R := R) (c := c)
  induction h with
  | use hi hu => exact .use (by omega) (by rw [UL_at hi]; exact hu)
  | @step i m hi hd hm _ ih =>
    have hin := nxL_in c (i : Int) m hm
    refine .step (m := m + (R.length : Int)) (by omega) (by rw [DL_at hi]; exact hd) ((nx_at hl hi _).2 ⟨m, hm, rfl⟩) ?_
    rw [show (m + (R.length : Int)).toNat = R.length + m.toNat by omega]
    exact ih
theorem need_down (hl : (codeD R c).length ≤ 1000) {r : Int} {j : Nat} (h : NeedP (codeD R c) r j) : ∀ i : Nat, j = R.length + i → NeedP c r i := by
  have hlen := codeD_len (R := R) (c := c)
  induction h with
  | use hi hu =>
    intro i e
    subst e
    rw [UL_at (by omega)] at hu
    exact .use (by omega) hu
  | @step j m hi hd hm _ ih =>
    intro i e
    subst e
    rw [DL_at (by omega)] at hd
    obtain ⟨q, hq, rfl⟩ := (nx_at hl (by omega) m).1 hm
    have hin := nxL_in c (i : Int) q hq
    exact .step (by omega) hd hq (ih q.toNat (by omega))
theorem need_head (hl : (codeD R c).length ≤ 1000) {r : Int} {j : Nat} (h : NeedP (codeD R c) r j) : j ≤ R.length → (∀ q, j ≤ q → q < R.length → r ≠ R.getD q 0) ∧ NeedP (codeD R c) r R.length := by
  induction h with
  | @use j hi hu =>
    intro hj
    by_cases e : j = R.length
    · subst e
      exact ⟨fun q h1 h2 => by omega, .use hi hu⟩
    · rw [UL_set (by omega)] at hu
      exact absurd hu (by simp)
  | @step j m hi hd hm hn ih =>
    intro hj
    by_cases e : j = R.length
    · subst e
      exact ⟨fun q h1 h2 => by omega, .step hi hd hm hn⟩
    · have hm1 := nx_set hl (by omega) hm
      subst hm1
      rw [show ((j : Int) + 1).toNat = j + 1 by omega] at ih hn
      obtain ⟨h1, h2⟩ := ih (by omega)
      refine ⟨fun q h3 h4 => ?_, h2⟩
      by_cases hq : q = j
      · subst hq
        rw [DL_set (by omega)] at hd
        exact hd
      · exact h1 q (by omega) h4
theorem need_used {r : Int} {i : Nat} (h : NeedP c r i) : ∃ j, j < c.length ∧ r ∈ UL c j := by
  induction h with
  | use hi hu => exact ⟨_, hi, hu⟩
  | step _ _ _ _ ih => exact ih
end
end Go.Proofs.YtianfjhhhhmjlaaDoor.PLiveBegins
