import Derived.Test.YtdopacgaklaaeaaDoorPDeadRunsx0
import Derived.Test.YtdopacgaklaaeaaDoorPDeadRunshg2
import Derived.Test.YtdopacgaklaaeaaDoorPDeadRunshdcode
import Derived.Test.YtdopacgaklaaeaaDoorPDeadRunshg0
import Derived.Test.YtdopacgaklaaeaaDoorPDeadRunshg4
import Derived.Test.YtdopacgaklaaeaaDoorPDeadRunshforms
import Derived.Test.YtdopacgaklaaeaaDoorPDeadRunshg1
import Derived.Test.YtdopacgaklaaeaaDoorPDeadRunshlgrow
import Derived.Test.YtdopacgaklaaeaaDoorPDeadRunshlsp
import Derived.Test.YtdopacgaklaaeaaDoorPDeadRunshg3
import Derived.Test.YtdopacgaklaaeaaDoorPDeadRunshplain0
namespace Go.Proofs.YtdopacgaklaaeaaDoor.PDeadRuns
open Go.RowKit Go.Proofs.YtdopacgaklaaeaaDoorW.PrintWords Go.Proofs.YtdopacgaklaaeaaDoorW.PrintLast Go.Proofs.YtdopacgaklaaeaaDoorW.PrintMore
set_option linter.unusedVariables false
set_option linter.unusedSimpArgs false
/-! A code without what nobody needs runs as with it: the runs. -/
/-- what is known of a code -/
structure CodeD (c : List S28) (re : List Bool) (A B : List (List Int)) (g : List Bool) : Prop where
  len : c.length ≤ 1000
  pos : 0 < c.length
  one : ∀ x ∈ c, oneB x c.length 30 9 = true
  ends : endsB c = true
  rel : re.length = c.length
  way : ∀ i, 0 ≤ i → (at_ re i = true ↔ Way (nxOf c) 0 i)
  flow : FlowS c A B
  gd : g = NL re B c
structure FactD (x : S28) (n : Nat) : Prop where
  k : 0 ≤ x.f0 ∧ x.f0 < 14
  d : 0 ≤ x.f2
  a : (x.f0 = 1 ∨ x.f0 = 2 ∨ x.f0 = 3 ∨ x.f0 = 7 ∨ x.f0 = 11) → 0 ≤ x.f3
  b : (x.f0 = 2 ∨ x.f0 = 3 ∨ x.f0 = 5) → 0 ≤ x.f4
  t : 0 ≤ x.f6 ∧ x.f6 < (n : Int)
theorem factD {x : S28} {n : Nat} (h : oneB x n 30 9 = true) : FactD x n := by
  simp only [oneB, Bool.and_eq_true, decide_eq_true_eq] at h
  obtain ⟨a1, a2, a3, a4, _, _, _, _, _, _, a6, a7⟩ := h
  refine ⟨a1, ?_, fun hk => ?_, fun hk => ?_, a6, a7⟩
  · unfold regB at a2; split at a2 <;> simp at a2 <;> omega
  · have hA : fA x.f0 = true := by unfold fA; rcases hk with h | h | h | h | h <;> rw [h] <;> rfl
    have hn : (x.f0 == 4 || x.f0 == 5) = false := by rcases hk with h | h | h | h | h <;> rw [h] <;> rfl
    rw [hA, hn] at a3
    unfold regB at a3; simp at a3; omega
  · have hB : fB x.f0 = true := by unfold fB; rcases hk with h | h | h <;> rw [h] <;> rfl
    rw [hB] at a4
    unfold regB at a4; simp at a4; omega
theorem getD_mem {c : List S28} {i : Nat} (hi : i < c.length) : c.getD i z28 ∈ c := by rw [List.getD_eq_getElem?_getD, List.getElem?_eq_getElem hi]; exact List.getElem_mem _
theorem defQ_kind {x : S28} (hk : 0 ≤ x.f0 ∧ x.f0 < 14) : defQ x = if x.f0 < 5 then x.f2 else -1 := by
  unfold defQ
  have : ∀ k : Int, 0 ≤ k ∧ k < 14 → fmB 1 k = decide (k < 5) := fun k hk => kind_cases' (P := fun k => fmB 1 k = decide (k < 5)) k hk (by decide +kernel) (by decide +kernel) (by decide +kernel) (by decide +kernel) (by decide +kernel) (by decide +kernel) (by decide +kernel) (by decide +kernel) (by decide +kernel) (by decide +kernel) (by decide +kernel) (by decide +kernel) (by decide +kernel) (by decide +kernel)
  rw [this _ hk]
  simp
theorem use_a {x : S28} (hk : x.f0 = 1 ∨ x.f0 = 2 ∨ x.f0 = 3 ∨ x.f0 = 4 ∨ x.f0 = 5 ∨ x.f0 = 7 ∨ x.f0 = 11) (h : 0 ≤ x.f3) : x.f3 ∈ useQ x := by
  refine (useQ_mem x _).2 ⟨h, .inl ⟨?_, rfl⟩⟩
  rcases hk with h | h | h | h | h | h | h <;> rw [h] <;> decide +kernel
theorem use_b {x : S28} (hk : x.f0 = 2 ∨ x.f0 = 3 ∨ x.f0 = 5) (h : 0 ≤ x.f4) : x.f4 ∈ useQ x := by
  refine (useQ_mem x _).2 ⟨h, .inr (.inl ⟨?_, rfl⟩)⟩
  rcases hk with h | h | h <;> rw [h] <;> decide +kernel
theorem use_d {x : S28} (hk : x.f0 = 3) (h : 0 ≤ x.f2) : x.f2 ∈ useQ x := by
  refine (useQ_mem x _).2 ⟨h, .inr (.inr ⟨?_, rfl⟩)⟩
  rw [hk]; decide +kernel
/-- both stand at one place, and agree in what is needed there -/
structure AtD (c : List S28) (re : List Bool) (A : List (List Int)) (g : List Bool) (s t : MSt) (p : Nat) : Prop where
  pc : s.pc = (p : Int)
  lt : p < c.length
  re : at_ re (p : Int) = true
  tpc : t.pc = ((cntD g false p : Nat) : Int)
  mem : s.mem = t.mem
  own : s.own = t.own
  over : s.over = t.over
  regs : ∀ r ∈ A.getD p [], getG s.regs r = getG t.regs r
def RelD (c : List S28) (re : List Bool) (A : List (List Int)) (g : List Bool) (s t : MSt) : Prop := s.mem = t.mem ∧ s.own = t.own ∧ s.over = t.over ∧ (s.over = false → ∃ p, AtD c re A g s t p)
section
variable {c : List S28} {re g : List Bool} {A B : List (List Int)}
theorem CodeD.gl (h : CodeD c re A B g) : g.length = c.length := by rw [h.gd]; exact NL_len _ _ _
theorem CodeD.fact (h : CodeD c re A B g) {i : Nat} (hi : i < c.length) : FactD (c.getD i z28) c.length := factD (h.one _ (getD_mem hi))
theorem CodeD.last (h : CodeD c re A B g) : (c.getD (c.length - 1) z28).f0 = 6 ∨ (c.getD (c.length - 1) z28).f0 = 12 ∨ (c.getD (c.length - 1) z28).f0 = 13 := by
  have he := h.ends
  have hp := h.pos
  unfold endsB at he
  rw [show rd_T28 c ((c.length : Int) - 1) = c.getD (c.length - 1) z28 by unfold rd_T28; rw [show ((c.length : Int) - 1).toNat = c.length - 1 by omega]] at he
  simpa using he
theorem CodeD.nxt (h : CodeD c re A B g) {p : Nat} (hp : p < c.length) (hk : ¬ ((c.getD p z28).f0 = 6 ∨ (c.getD p z28).f0 = 12 ∨ (c.getD p z28).f0 = 13)) : p + 1 < c.length := by
  by_cases he : p = c.length - 1
  · rw [he] at hk; exact absurd h.last hk
  · omega
theorem CodeD.go (h : CodeD c re A B g) {p : Nat} (hp : p < c.length) (hr : at_ re (p : Int) = true) {j : Int} (hj : j ∈ succL (c.getD p z28) p) (hi : 0 ≤ j ∧ j < (c.length : Int)) :
    at_ re j = true ∧ ∀ r ∈ A.getD j.toNat [], r ∈ B.getD p [] := by
  obtain ⟨h1, h2⟩ := succ_mem h.len hp (h.fact hp).k hj hi
  exact ⟨(h.way j hi.1).2 (.step ((h.way _ (by omega)).1 hr) h1), fun r hr => (h.flow.mB p hp r).2 ⟨j, h2, hr⟩⟩
theorem CodeD.gone (h : CodeD c re A B g) {p : Nat} (hp : p < c.length) (hr : at_ re (p : Int) = true) (hg : g.getD p false = true) :
    ((c.getD p z28).f0 < 5 ∧ (¬ (c.getD p z28).f2 ∈ B.getD p [] ∨ ((c.getD p z28).f0 = 1 ∧ (c.getD p z28).f3 = (c.getD p z28).f2))) ∨ ((c.getD p z28).f0 = 6 ∧ (c.getD p z28).f6 = (p : Int) + 1) := by
  have hF := h.fact hp
  rw [h.gd, NL_get _ _ _ _ hp] at hg
  have hr' : re.getD p false = true := by unfold at_ at hr; rwa [Int.toNat_natCast] at hr
  unfold nl at hg
  rw [hr', if_pos rfl, defQ_kind hF.k] at hg
  by_cases h5 : (c.getD p z28).f0 < 5
  · left
    refine ⟨h5, ?_⟩
    rw [if_pos h5, if_pos hF.d] at hg
    by_cases hm : (c.getD p z28).f2 ∈ B.getD p []
    · right
      rw [if_pos (by simpa using hm)] at hg
      split at hg
      · rename_i h1; exact ⟨h1, by simpa using hg⟩
      · cases hg
    · exact .inl hm
  · right
    rw [if_neg h5, if_neg (by omega)] at hg
    split at hg
    · rename_i h6; exact ⟨h6, by simpa using hg⟩
    · cases hg
theorem CodeD.fall (h : CodeD c re A B g) {p : Nat} (hp : p < c.length) (hr : at_ re (p : Int) = true) (hg : g.getD p false = true) : p + 1 < c.length ∧ ((p : Int) + 1) ∈ succL (c.getD p z28) p := by
  have hF := h.fact hp
  rcases h.gone hp hr hg with ⟨h5, _⟩ | ⟨h6, ht⟩
  · refine ⟨h.nxt hp (by omega), ?_⟩
    unfold succL
    rw [if_neg (by omega), if_neg (by omega), if_neg (by omega)]
    simp
  · refine ⟨by have := hF.t; omega, ?_⟩
    unfold succL
    rw [if_neg (by omega), if_pos h6, ht]
    simp
theorem CodeD.later (h : CodeD c re A B g) : ∀ (m p : Nat), c.length - p ≤ m → p < c.length → at_ re (p : Int) = true → ∃ q, p ≤ q ∧ q < c.length ∧ g.getD q false = false
  | 0, p, hm, hp, hr => by omega
  | m + 1, p, hm, hp, hr => by
    cases hg : g.getD p false with
    | false => exact ⟨p, Nat.le_refl _, hp, hg⟩
    | true =>
      obtain ⟨h1, h2⟩ := h.fall hp hr hg
      obtain ⟨q, q1, q2, q3⟩ := CodeD.later h m (p + 1) (by omega) h1 (by have := (h.go hp hr h2 ⟨by omega, by omega⟩).1; simpa using this)
      exact ⟨q, by omega, q2, q3⟩
theorem CodeD.tgtq (h : CodeD c re A B g) {p : Nat} (hp : p < c.length) (hr : at_ re (p : Int) = true) : tgt g (p : Int) = ((cntD g false p : Nat) : Int) := by
  obtain ⟨q, q1, q2, q3⟩ := h.later (c.length - p) p (Nat.le_refl _) hp hr
  have h1 := cntF_lt g q (by rw [h.gl]; exact q2) q3
  have h2 := cntF_mono g p q q1
  have h3 := cntD_full g false
  unfold tgt
  rw [mn_eq, Int.toNat_natCast]
  omega
theorem CodeD.pos0 (h : CodeD c re A B g) {p : Nat} {r : Int} (hr : r ∈ B.getD p []) : 0 ≤ r :=
  (small_used (c := c) (fun x hx => by
    have hf := h.one x hx
    simp only [oneB, Bool.and_eq_true, decide_eq_true_eq] at hf
    obtain ⟨a1, a2, a3, a4, _⟩ := hf
    refine ⟨?_, ?_, ?_⟩
    · unfold regB at a2; split at a2 <;> simp at a2 <;> omega
    · unfold regB at a3; split at a3 <;> simp at a3 <;> omega
    · unfold regB at a4; split at a4 <;> simp at a4 <;> omega) r (h.flow.sgB p r hr)).1
theorem CodeD.use (h : CodeD c re A B g) {p : Nat} (hp : p < c.length) {r : Int} (hr : r ∈ useQ (c.getD p z28)) : r ∈ A.getD p [] := (h.flow.mA p hp r).2 (.inl hr)
theorem CodeD.keep (h : CodeD c re A B g) {p : Nat} (hp : p < c.length) {r : Int} (hr : r ∈ B.getD p []) (hd : (c.getD p z28).f0 < 5 → r ≠ (c.getD p z28).f2) : r ∈ A.getD p [] := by
  refine (h.flow.mA p hp r).2 (.inr ⟨hr, ?_⟩)
  unfold DL
  rw [defQ_kind (h.fact hp).k]
  have := h.pos0 hr
  split
  · rename_i h5; exact hd h5
  · omega
/-- on to the next place -/
theorem CodeD.on (h : CodeD c re A B g) {p : Nat} (hp : p < c.length) (hr : at_ re (p : Int) = true) {j : Nat} (hj : (j : Int) ∈ succL (c.getD p z28) p) (hi : j < c.length) {s t : MSt} (h1 : s.pc = (j : Int)) (h2 : t.pc = ((cntD g false j : Nat) : Int)) (h3 : s.mem = t.mem) (h4 : s.own = t.own) (h5 : s.over = t.over) (h6 : ∀ r ∈ B.getD p [], getG s.regs r = getG t.regs r) : AtD c re A g s t j := by
  obtain ⟨g1, g2⟩ := h.go hp hr hj ⟨by omega, by omega⟩
  rw [Int.toNat_natCast] at g2
  exact ⟨h1, hi, g1, h2, h3, h4, h5, fun r hr => h6 r (g2 r hr)⟩
end
end Go.Proofs.YtdopacgaklaaeaaDoor.PDeadRuns
