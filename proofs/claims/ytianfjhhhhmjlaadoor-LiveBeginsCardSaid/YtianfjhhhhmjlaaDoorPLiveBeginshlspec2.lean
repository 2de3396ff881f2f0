import Derived.Test.YtianfjhhhhmjlaaDoorPLiveBeginsx0
import Derived.Test.YtianfjhhhhmjlaaDoorPLiveBeginshlenv
import Derived.Test.YtianfjhhhhmjlaaDoorPLiveBeginshlflow
import Derived.Test.YtianfjhhhhmjlaaDoorPLiveBeginshlgrow
import Derived.Test.YtianfjhhhhmjlaaDoorPLiveBeginshlnx
import Derived.Test.YtianfjhhhhmjlaaDoorPLiveBeginshlrows
import Derived.Test.YtianfjhhhhmjlaaDoorPLiveBeginshlspec
import Derived.Test.YtianfjhhhhmjlaaDoorPLiveBeginshplain0
namespace Go.Proofs.YtianfjhhhhmjlaaDoor.PLiveBegins
open Go.RowKit Go.Proofs.YtianfjhhhhmjlaaDoorW.PrintWords Go.Proofs.YtianfjhhhhmjlaaDoorW.PrintLast Go.Proofs.YtianfjhhhhmjlaaDoorW.PrintMore
set_option linter.unusedVariables false
set_option linter.unusedSimpArgs false
/-! live.flow ends, and its answer. -/
def totL (A : List (List Int)) : Nat := (A.map List.length).sum
theorem totL_set : ∀ (L : List (List Int)) (i : Nat) (l : List Int), i < L.length → totL (L.set i l) + (L.getD i []).length = totL L + l.length
  | [], i, l, h => absurd h (by simp)
  | x :: L, 0, l, _ => by simp [totL]; omega
  | x :: L, i + 1, l, h => by
    have := totL_set L i l (by simpa using h)
    simp only [totL, List.set_cons_succ, List.map_cons, List.sum_cons, List.getD_cons_succ] at *
    omega
theorem totL_le {n : Nat} : ∀ L : List (List Int), (∀ l ∈ L, l.length ≤ n) → totL L ≤ L.length * n
  | [], _ => by simp [totL]
  | x :: L, h => by
    have := totL_le L (fun l hl => h l (by simp [hl]))
    have := h x (by simp)
    simp only [totL, List.map_cons, List.sum_cons, List.length_cons, Nat.add_mul, Nat.one_mul] at *
    omega
theorem up_len {l m : List Int} (hl : l.Pairwise (· < ·)) (hm : m.Pairwise (· < ·)) (hs : ∀ r ∈ l, r ∈ m) (h : m.length ≤ l.length) : m = l := by
  refine up_same hm hl (fun i => ⟨fun hi => ?_, hs i⟩)
  refine Classical.byContradiction fun hn => ?_
  have := nodup_len (S := i :: l) (T := m) (List.nodup_cons.2 ⟨hn, up_nodup hl⟩) (fun j hj => by
    rcases List.mem_cons.1 hj with rfl | hj
    · exact hi
    · exact hs j hj)
  simp at this
  omega
section
variable {c : List S39} {A B : List (List Int)}
theorem LInv.lenA (h : LInv c A B) (i : Nat) : (A.getD i []).length ≤ 3 * c.length := Nat.le_trans (nodup_len (up_nodup (getD_up h.uA i)) (fun r hr => h.sgA i r hr)) (usedQ_len c)
theorem LInv.lenB (h : LInv c A B) (i : Nat) : (B.getD i []).length ≤ 3 * c.length := Nat.le_trans (nodup_len (up_nodup (getD_up h.uB i)) (fun r hr => h.sgB i r hr)) (usedQ_len c)
theorem row_of {L : List (List Int)} {l : List Int} (h : l ∈ L) : ∃ i, i < L.length ∧ L.getD i [] = l := by
  obtain ⟨i, hi, he⟩ := List.mem_iff_getElem.1 h
  exact ⟨i, hi, by rw [List.getD_eq_getElem?_getD, List.getElem?_eq_getElem hi, Option.getD_some, he]⟩
theorem LInv.tot (h : LInv c A B) : totL A + totL B ≤ 2 * (c.length * (3 * c.length)) := by
  have h1 := totL_le (n := 3 * c.length) A (fun l hl => by obtain ⟨i, _, rfl⟩ := row_of hl; exact h.lenA i)
  have h2 := totL_le (n := 3 * c.length) B (fun l hl => by obtain ⟨i, _, rfl⟩ := row_of hl; exact h.lenB i)
  rw [h.lA] at h1
  rw [h.lB] at h2
  omega
theorem LInv.grows (h : LInv c A B) (hc : c.length ≤ 1000) {i : Nat} (hi : i < c.length) : live_grow.f c A B (i : Int) = some (AtA c A B i, AtB c A B i, decide ((A.getD i []).length + (B.getD i []).length < (AtA c A B i).length + (AtB c A B i).length)) := by
  have hs := h.step hi
  have e1 := hs.lenA i
  have e2 := hs.lenB i
  rw [getD_set _ _ _ _ (by rw [h.lA]; exact hi), if_pos rfl] at e1
  rw [getD_set _ _ _ _ (by rw [h.lB]; exact hi), if_pos rfl] at e2
  have e3 := h.lenA i
  have e4 := h.lenB i
  have e5 := nxL_len c (i : Int)
  have e6 := useQ_len (c.getD i z39)
  unfold live_grow.f
  rw [live_next_some c (i : Int) (by omega) (by omega), Option.bind_some]
  simp only [show rd_T39 c (i : Int) = c.getD i z39 by unfold rd_T39; rw [Int.toNat_natCast], Int.toNat_natCast]
  have a1 : (nxL c (i : Int)).length ≤ 1000000 := by omega
  have a2 : (useQ (c.getD i z39)).length ≤ 1000000 := by omega
  have a3 : (A.getD i []).length + (B.getD i []).length ≤ 1000000 := by omega
  have a4 : (AtA c A B i).length + (AtB c A B i).length ≤ 1000000 := by omega
  exact if_pos ⟨a1, a2, a3, a4⟩
theorem LInv.subA (h : LInv c A B) (i : Nat) : (A.getD i []).length ≤ (AtA c A B i).length := nodup_len (up_nodup (getD_up h.uA i)) (fun r hr => (h.memA i r).2 (.inl hr))
theorem LInv.subB (h : LInv c A B) (i : Nat) : (B.getD i []).length ≤ (AtB c A B i).length := nodup_len (up_nodup (getD_up h.uB i)) (fun r hr => (h.memB i r).2 (.inl hr))
theorem set_same {L : List (List Int)} {i : Nat} {l : List Int} (h : l = L.getD i []) : L.set i l = L := by
  subst h
  refine List.ext_getElem (by simp) (fun j h1 h2 => ?_)
  rw [List.getElem_set]
  split
  · rename_i e; subst e
    rw [List.getD_eq_getElem?_getD, List.getElem?_eq_getElem h2]; rfl
  · rfl
theorem LInv.pass (hc : c.length ≤ 1000) : ∀ (i : Nat) (A B : List (List Int)) (g : Bool), i ≤ c.length → LInv c A B → ∃ A' B' g', live_pass.f c i A B g = some (A', B', g') ∧ LInv c A' B' ∧ totL A + totL B ≤ totL A' + totL B' ∧ (g' = true → g = true ∨ totL A + totL B < totL A' + totL B') ∧
    (g' = false → g = false ∧ A' = A ∧ B' = B ∧ ∀ j, j < i → AtA c A B j = A.getD j [] ∧ AtB c A B j = B.getD j [])
  | 0, A, B, g, _, h => ⟨A, B, g, rfl, h, Nat.le_refl _, fun e => .inl e, fun e => ⟨e, rfl, rfl, fun j hj => absurd hj (by omega)⟩⟩
  | i + 1, A, B, g, hi, h => by
    have hil : i < c.length := by omega
    have hs := h.step hil
    have tA := totL_set A i (AtA c A B i) (by rw [h.lA]; exact hil)
    have tB := totL_set B i (AtB c A B i) (by rw [h.lB]; exact hil)
    have sA := h.subA i
    have sB := h.subB i
    obtain ⟨A', B', g', e, hI, ht, hg1, hg2⟩ := LInv.pass hc i _ _ (g || decide ((A.getD i []).length + (B.getD i []).length < (AtA c A B i).length + (AtB c A B i).length)) (by omega) hs
    refine ⟨A', B', g', ?_, hI, by omega, fun e1 => ?_, fun e1 => ?_⟩
    · unfold live_pass.f
      rw [h.grows hc hil, Option.bind_some]
      exact e
    · rcases hg1 e1 with h1 | h1
      · rw [Bool.or_eq_true, decide_eq_true_eq] at h1
        rcases h1 with h1 | h1
        · exact .inl h1
        · right; omega
      · right; omega
    · obtain ⟨h1, h2, h3, h4⟩ := hg2 e1
      rw [Bool.or_eq_false_iff, decide_eq_false_iff_not] at h1
      obtain ⟨g0, hlen⟩ := h1
      have eA := up_len (getD_up h.uA i) (h.upA i) (fun r hr => (h.memA i r).2 (.inl hr)) (by omega)
      have eB := up_len (getD_up h.uB i) (h.upB i) (fun r hr => (h.memB i r).2 (.inl hr)) (by omega)
      have fzA : A.set i (AtA c A B i) = A := set_same eA
      have fzB : B.set i (AtB c A B i) = B := set_same eB
      rw [fzA] at h2
      rw [fzB] at h3
      rw [fzA, fzB] at h4
      refine ⟨g0, h2, h3, fun j hj => ?_⟩
      by_cases hji : j = i
      · subst hji; exact ⟨eA, eB⟩
      · exact h4 j (by omega)
theorem LInv.loop (hc : c.length ≤ 1000) : ∀ (d : Nat) (A B : List (List Int)), LInv c A B → 2 * (c.length * (3 * c.length)) ≤ totL A + totL B + d → ∃ A' B', live_flow.l c (d + 1) A B = some (A', B') ∧ LInv c A' B' ∧ ∀ j, j < c.length → AtA c A' B' j = A'.getD j [] ∧ AtB c A' B' j = B'.getD j [] := by
  intro d
  induction d with
  | zero =>
    intro A B h hd
    obtain ⟨A', B', g', e, hI, ht, hg1, hg2⟩ := LInv.pass hc c.length A B false (Nat.le_refl _) h
    have htot := hI.tot
    cases g' with
    | true =>
      rcases hg1 rfl with h1 | h1
      · exact absurd h1 (by simp)
      · omega
    | false =>
      obtain ⟨_, rfl, rfl, h4⟩ := hg2 rfl
      refine ⟨A', B', ?_, hI, h4⟩
      unfold live_flow.l
      rw [e]
      rfl
  | succ d ih =>
    intro A B h hd
    obtain ⟨A', B', g', e, hI, ht, hg1, hg2⟩ := LInv.pass hc c.length A B false (Nat.le_refl _) h
    cases g' with
    | true =>
      rcases hg1 rfl with h1 | h1
      · exact absurd h1 (by simp)
      · obtain ⟨A2, B2, e2, h2⟩ := ih A' B' hI (by omega)
        refine ⟨A2, B2, ?_, h2⟩
        unfold live_flow.l
        rw [e]
        exact e2
    | false =>
      obtain ⟨_, rfl, rfl, h4⟩ := hg2 rfl
      refine ⟨A', B', ?_, hI, h4⟩
      unfold live_flow.l
      rw [e]
      rfl
end
structure FlowS (c : List S39) (A B : List (List Int)) : Prop where
  lA : A.length = c.length
  lB : B.length = c.length
  uA : ∀ l ∈ A, l.Pairwise (· < ·)
  uB : ∀ l ∈ B, l.Pairwise (· < ·)
  nA : ∀ i : Nat, (A.getD i []).length ≤ 3 * c.length
  nB : ∀ i : Nat, (B.getD i []).length ≤ 3 * c.length
  sgA : ∀ (i : Nat) (r : Int), r ∈ A.getD i [] → r ∈ usedQ c
  sgB : ∀ (i : Nat) (r : Int), r ∈ B.getD i [] → r ∈ usedQ c
  mB : ∀ i : Nat, i < c.length → ∀ r, r ∈ B.getD i [] ↔ ∃ m ∈ nxL c (i : Int), r ∈ A.getD m.toNat []
  mA : ∀ i : Nat, i < c.length → ∀ r, r ∈ A.getD i [] ↔ r ∈ UL c i ∨ (r ∈ B.getD i [] ∧ r ≠ DL c i)
  need : ∀ i : Nat, i < c.length → ∀ r, r ∈ A.getD i [] ↔ NeedP c r i
theorem flow_spec (c : List S39) (hc : c.length ≤ 1000) : ∃ A B, Ev (fun k => live_flow.f k c) (A, B) ∧ FlowS c A B := by
  have e0 : ∀ i : Nat, (List.replicate c.length ([] : List Int)).getD i [] = [] := fun i => by
    rw [List.getD_eq_getElem?_getD, List.getElem?_replicate]
    split <;> rfl
  have h0 : LInv c (List.replicate c.length []) (List.replicate c.length []) := by
    refine ⟨by simp, by simp, fun l hl => ?_, fun l hl => ?_, fun i r hr => ?_, fun i r hr => ?_, fun i _ r hr => ?_, fun i _ r hr => ?_, fun i _ r hr => ?_⟩
    · rw [List.eq_of_mem_replicate hl]; exact List.Pairwise.nil
    · rw [List.eq_of_mem_replicate hl]; exact List.Pairwise.nil
    all_goals (rw [e0] at hr; exact absurd hr (by simp))
  obtain ⟨A, B, e, hI, hf⟩ := LInv.loop hc (2 * (c.length * (3 * c.length))) _ _ h0 (by omega)
  have hmB : ∀ i : Nat, i < c.length → ∀ r, r ∈ B.getD i [] ↔ ∃ m ∈ nxL c (i : Int), r ∈ A.getD m.toNat [] := fun i hi r => by
    constructor
    · exact hI.soB i hi r
    · intro h
      rw [← (hf i hi).2]
      exact (hI.memB i r).2 (.inr h)
  have hmA : ∀ i : Nat, i < c.length → ∀ r, r ∈ A.getD i [] ↔ r ∈ UL c i ∨ (r ∈ B.getD i [] ∧ r ≠ DL c i) := fun i hi r => by
    constructor
    · exact hI.soA i hi r
    · intro h
      rw [← (hf i hi).1]
      refine (hI.memA i r).2 ?_
      rw [(hf i hi).2]
      rcases h with h | h
      · exact .inr (.inr h)
      · exact .inr (.inl h)
  refine ⟨A, B, ?_, hI.lA, hI.lB, hI.uA, hI.uB, hI.lenA, hI.lenB, hI.sgA, hI.sgB, hmB, hmA, fun i hi r => ⟨hI.need i hi r, fun hn => ?_⟩⟩
  · refine Ev.of (live_flow.mono c) (k := 2 * (c.length * (3 * c.length)) + 1) ?_
    show live_flow.f _ c = _
    unfold live_flow.f
    rw [if_pos (by omega)]
    exact e
  · clear hi
    induction hn with
    | use hi hu => exact (hmA _ hi r).2 (.inl hu)
    | step hi hd hm _ ih => exact (hmA _ hi r).2 (.inr ⟨(hmB _ hi r).2 ⟨_, hm, ih⟩, hd⟩)
end Go.Proofs.YtianfjhhhhmjlaaDoor.PLiveBegins
