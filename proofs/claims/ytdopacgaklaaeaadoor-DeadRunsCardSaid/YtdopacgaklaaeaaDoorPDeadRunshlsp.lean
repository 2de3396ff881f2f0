import Derived.Test.YtdopacgaklaaeaaDoorPDeadRunsx0
import Derived.Test.YtdopacgaklaaeaaDoorPDeadRunshg1
import Derived.Test.YtdopacgaklaaeaaDoorPDeadRunshforms
import Derived.Test.YtdopacgaklaaeaaDoorPDeadRunshg7
import Derived.Test.YtdopacgaklaaeaaDoorPDeadRunshinsuses
import Derived.Test.YtdopacgaklaaeaaDoorPDeadRunshlfl
import Derived.Test.YtdopacgaklaaeaaDoorPDeadRunshlgrow
import Derived.Test.YtdopacgaklaaeaaDoorPDeadRunshg6
import Derived.Test.YtdopacgaklaaeaaDoorPDeadRunshplain0
import Derived.Test.YtdopacgaklaaeaaDoorPDeadRunshlro
namespace Go.Proofs.YtdopacgaklaaeaaDoor.PDeadRuns
open Go.RowKit Go.Proofs.YtdopacgaklaaeaaDoorW.PrintWords Go.Proofs.YtdopacgaklaaeaaDoorW.PrintLast Go.Proofs.YtdopacgaklaaeaaDoorW.PrintMore
set_option linter.unusedVariables false
set_option linter.unusedSimpArgs false
/-! What live.flow comes to: the least rows of sets that the two rules ask for. -/
theorem useQ_mem (x : S28) (r : Int) : r ∈ useQ x ↔ 0 ≤ r ∧ ((fmB 2 x.f0 = true ∧ r = x.f3) ∨ (fmB 3 x.f0 = true ∧ r = x.f4) ∨ (fmB 8 x.f0 = true ∧ r = x.f2)) := by
  unfold useQ
  rw [(useRegs_spec _).2]
  unfold useL
  simp only [List.mem_append]
  constructor
  · rintro ⟨h, h0⟩
    refine ⟨h0, ?_⟩
    rcases h with (h | h) | h
    · left; split at h <;> simp_all
    · right; left; split at h <;> simp_all
    · right; right; split at h <;> simp_all
  · rintro ⟨h0, h⟩
    refine ⟨?_, h0⟩
    rcases h with ⟨h, rfl⟩ | ⟨h, rfl⟩ | ⟨h, rfl⟩ <;> simp [h]
theorem useQ_up (x : S28) : (useQ x).Pairwise (· < ·) := (useRegs_spec _).1
theorem useQ_len (x : S28) : (useQ x).length ≤ 3 := by
  refine nodup_len (T := [x.f3, x.f4, x.f2]) (up_nodup (useQ_up x)) (fun r hr => ?_)
  obtain ⟨_, h⟩ := (useQ_mem x r).1 hr
  rcases h with ⟨_, rfl⟩ | ⟨_, rfl⟩ | ⟨_, rfl⟩ <;> simp
def UL (c : List S28) (i : Nat) : List Int := useQ (c.getD i z28)
def DL (c : List S28) (i : Nat) : Int := defQ (c.getD i z28)
theorem mem_growB {A : List (List Int)} (r : Int) : ∀ (ns b : List Int), b.Pairwise (· < ·) → (r ∈ growB A ns b ↔ r ∈ b ∨ ∃ m ∈ ns, r ∈ A.getD m.toNat [])
  | [], b, _ => by simp [growB]
  | n :: ns, b, h => by
    obtain ⟨h1, h2, _⟩ := foldIns (A.getD n.toNat []) b h
    have := mem_growB (A := A) r ns _ h1
    show r ∈ growB A ns ((A.getD n.toNat []).foldl insL b) ↔ _
    rw [this, h2]
    simp only [List.mem_cons, exists_eq_or_imp, or_assoc]
theorem mem_growA (d r : Int) (us b a : List Int) (h : a.Pairwise (· < ·)) : r ∈ growA d us b a ↔ r ∈ a ∨ (r ∈ b ∧ r ≠ d) ∨ r ∈ us := by
  obtain ⟨h1, h2, _⟩ := foldIns (b.filter (fun i => !(i == d))) a h
  obtain ⟨_, h4, _⟩ := foldIns us _ h1
  unfold growA
  rw [h4, h2, List.mem_filter]
  simp only [Bool.not_eq_true', beq_eq_false_iff_ne, ne_eq, or_assoc]
/-- a register is needed ahead of a place: some way leads on, not over what writes it, to what reads it -/
inductive NeedP (c : List S28) (r : Int) : Nat → Prop
  | use {i : Nat} : i < c.length → r ∈ UL c i → NeedP c r i
  | step {i : Nat} {m : Int} : i < c.length → r ≠ DL c i → m ∈ nxL c (i : Int) → NeedP c r m.toNat → NeedP c r i
def usedQ (c : List S28) : List Int := (List.range c.length).flatMap (UL c)
theorem usedQ_len (c : List S28) : (usedQ c).length ≤ 3 * c.length := by
  have : ∀ l : List Nat, (l.flatMap (UL c)).length ≤ 3 * l.length := by
    intro l
    induction l with
    | nil => simp
    | cons a l ih =>
      have := useQ_len (c.getD a z28)
      rw [List.flatMap_cons, List.length_append, List.length_cons]
      have h2 : (UL c a).length ≤ 3 := this
      omega
  simpa [usedQ] using this (List.range c.length)
structure LInv (c : List S28) (A B : List (List Int)) : Prop where
  lA : A.length = c.length
  lB : B.length = c.length
  uA : ∀ l ∈ A, l.Pairwise (· < ·)
  uB : ∀ l ∈ B, l.Pairwise (· < ·)
  sgA : ∀ (i : Nat) (r : Int), r ∈ A.getD i [] → r ∈ usedQ c
  sgB : ∀ (i : Nat) (r : Int), r ∈ B.getD i [] → r ∈ usedQ c
  soB : ∀ i : Nat, i < c.length → ∀ r ∈ B.getD i [], ∃ m ∈ nxL c (i : Int), r ∈ A.getD m.toNat []
  soA : ∀ i : Nat, i < c.length → ∀ r ∈ A.getD i [], r ∈ UL c i ∨ (r ∈ B.getD i [] ∧ r ≠ DL c i)
  need : ∀ i : Nat, i < c.length → ∀ r ∈ A.getD i [], NeedP c r i
def AtA (c : List S28) (A B : List (List Int)) (i : Nat) : List Int := growA (DL c i) (UL c i) (growB A (nxL c (i : Int)) (B.getD i [])) (A.getD i [])
def AtB (c : List S28) (A B : List (List Int)) (i : Nat) : List Int := growB A (nxL c (i : Int)) (B.getD i [])
theorem getD_set {α : Type} (L : List (List α)) (i j : Nat) (l : List α) (hi : i < L.length) : (L.set i l).getD j [] = if j = i then l else L.getD j [] := by
  by_cases h : j = i
  · subst h
    rw [if_pos rfl, List.getD_eq_getElem?_getD, List.getElem?_set, if_pos rfl, if_pos hi]
    rfl
  · rw [if_neg h]
    simp only [List.getD_eq_getElem?_getD]
    rw [List.getElem?_set, if_neg (fun e => h e.symm)]
section
variable {c : List S28} {A B : List (List Int)}
theorem LInv.memB (h : LInv c A B) (i : Nat) (r : Int) : r ∈ AtB c A B i ↔ r ∈ B.getD i [] ∨ ∃ m ∈ nxL c (i : Int), r ∈ A.getD m.toNat [] := mem_growB r _ _ (getD_up h.uB i)
theorem LInv.memA (h : LInv c A B) (i : Nat) (r : Int) : r ∈ AtA c A B i ↔ r ∈ A.getD i [] ∨ (r ∈ AtB c A B i ∧ r ≠ DL c i) ∨ r ∈ UL c i := mem_growA _ r _ _ _ (getD_up h.uA i)
theorem LInv.upB (h : LInv c A B) (i : Nat) : (AtB c A B i).Pairwise (· < ·) := growB_up _ _ (getD_up h.uB i)
theorem LInv.upA (h : LInv c A B) (i : Nat) : (AtA c A B i).Pairwise (· < ·) := growA_up (getD_up h.uA i)
theorem LInv.step (h : LInv c A B) {i : Nat} (hi : i < c.length) : LInv c (A.set i (AtA c A B i)) (B.set i (AtB c A B i)) := by
  have hA : i < A.length := by rw [h.lA]; exact hi
  have hB : i < B.length := by rw [h.lB]; exact hi
  have gA := getD_set A i
  have gB := getD_set B i
  have monoA : ∀ (j : Nat) (r : Int), r ∈ A.getD j [] → r ∈ (A.set i (AtA c A B i)).getD j [] := fun j r hr => by
    rw [gA _ _ hA]
    split
    · rename_i e; subst e; exact (h.memA _ r).2 (.inl hr)
    · exact hr
  have bUsed : ∀ r ∈ AtB c A B i, r ∈ usedQ c := fun r hr => by
    rcases (h.memB i r).1 hr with h1 | ⟨m, _, h1⟩
    · exact h.sgB _ _ h1
    · exact h.sgA _ _ h1
  have uUsed : ∀ r ∈ UL c i, r ∈ usedQ c := fun r hr => List.mem_flatMap.2 ⟨i, List.mem_range.2 hi, hr⟩
  have needB : ∀ r ∈ AtB c A B i, ∃ m ∈ nxL c (i : Int), r ∈ A.getD m.toNat [] := fun r hr => by
    rcases (h.memB i r).1 hr with h1 | h1
    · exact h.soB i hi r h1
    · exact h1
  refine ⟨by rw [List.length_set]; exact h.lA, by rw [List.length_set]; exact h.lB, fun l hl => ?_, fun l hl => ?_, fun j r hr => ?_, fun j r hr => ?_, fun j hj r hr => ?_, fun j hj r hr => ?_, fun j hj r hr => ?_⟩
  · rcases List.mem_or_eq_of_mem_set hl with hl | rfl
    · exact h.uA l hl
    · exact h.upA i
  · rcases List.mem_or_eq_of_mem_set hl with hl | rfl
    · exact h.uB l hl
    · exact h.upB i
  · rw [gA _ _ hA] at hr
    split at hr
    · rcases (h.memA i r).1 hr with h1 | ⟨h1, _⟩ | h1
      · exact h.sgA _ _ h1
      · exact bUsed r h1
      · exact uUsed r h1
    · exact h.sgA _ _ hr
  · rw [gB _ _ hB] at hr
    split at hr
    · exact bUsed r hr
    · exact h.sgB _ _ hr
  · rw [gB _ _ hB] at hr
    split at hr
    · rename_i e; subst e
      obtain ⟨m, hm, h1⟩ := needB r hr
      exact ⟨m, hm, monoA _ _ h1⟩
    · obtain ⟨m, hm, h1⟩ := h.soB j hj r hr
      exact ⟨m, hm, monoA _ _ h1⟩
  · rw [gA _ _ hA] at hr
    rw [gB _ _ hB]
    split at hr
    · rename_i e; subst e
      rw [if_pos rfl]
      rcases (h.memA _ r).1 hr with h1 | h1 | h1
      · rcases h.soA _ hj r h1 with h2 | ⟨h2, h3⟩
        · exact .inl h2
        · exact .inr ⟨(h.memB _ r).2 (.inl h2), h3⟩
      · exact .inr h1
      · exact .inl h1
    · rename_i e
      rw [if_neg e]
      exact h.soA j hj r hr
  · rw [gA _ _ hA] at hr
    split at hr
    · rename_i e; subst e
      rcases (h.memA _ r).1 hr with h1 | ⟨h1, h2⟩ | h1
      · exact h.need _ hj r h1
      · obtain ⟨m, hm, h3⟩ := needB r h1
        have hin := nxL_in c (j : Int) m hm
        exact .step hj h2 hm (h.need m.toNat (by omega) r h3)
      · exact .use hj h1
    · exact h.need j hj r hr
end
end Go.Proofs.YtdopacgaklaaeaaDoor.PDeadRuns

namespace Go.Proofs.YtdopacgaklaaeaaDoor.PDeadRuns
open Go.RowKit Go.Proofs.YtdopacgaklaaeaaDoorW.PrintWords Go.Proofs.YtdopacgaklaaeaaDoorW.PrintLast Go.Proofs.YtdopacgaklaaeaaDoorW.PrintMore
set_option linter.unusedVariables false
set_option linter.unusedSimpArgs false
/-! live.flow ends, and its answer. -/
def totL (A : List (List Int)) : Nat := (A.map List.length).sum
theorem totL_set : ∀ (L : List (List Int)) (i : Nat) (l : List Int), i < L.length → totL (L.set i l) + (L.getD i []).length = totL L + l.length
  | [], i, l, h => absurd h (by simp)
  | x :: L, 0, l, _ => by simp [totL]; omega
  | x :: L, i + 1, l, h => by
    have := totL_set L i l (by simpa using h)
    simp only [totL, List.set_cons_succ, List.map_cons, List.sum_cons, List.getD_cons_succ] at *
    omega
theorem totL_le {n : Nat} : ∀ L : List (List Int), (∀ l ∈ L, l.length ≤ n) → totL L ≤ L.length * n
  | [], _ => by simp [totL]
  | x :: L, h => by
    have := totL_le L (fun l hl => h l (by simp [hl]))
    have := h x (by simp)
    simp only [totL, List.map_cons, List.sum_cons, List.length_cons, Nat.add_mul, Nat.one_mul] at *
    omega
theorem up_len {l m : List Int} (hl : l.Pairwise (· < ·)) (hm : m.Pairwise (· < ·)) (hs : ∀ r ∈ l, r ∈ m) (h : m.length ≤ l.length) : m = l := by
  refine up_same hm hl (fun i => ⟨fun hi => ?_, hs i⟩)
  refine Classical.byContradiction fun hn => ?_
  have := nodup_len (S := i :: l) (T := m) (List.nodup_cons.2 ⟨hn, up_nodup hl⟩) (fun j hj => by
    rcases List.mem_cons.1 hj with rfl | hj
    · exact hi
    · exact hs j hj)
  simp at this
  omega
section
variable {c : List S28} {A B : List (List Int)}
theorem LInv.lenA (h : LInv c A B) (i : Nat) : (A.getD i []).length ≤ 3 * c.length := Nat.le_trans (nodup_len (up_nodup (getD_up h.uA i)) (fun r hr => h.sgA i r hr)) (usedQ_len c)
theorem LInv.lenB (h : LInv c A B) (i : Nat) : (B.getD i []).length ≤ 3 * c.length := Nat.le_trans (nodup_len (up_nodup (getD_up h.uB i)) (fun r hr => h.sgB i r hr)) (usedQ_len c)
theorem row_of {L : List (List Int)} {l : List Int} (h : l ∈ L) : ∃ i, i < L.length ∧ L.getD i [] = l := by
  obtain ⟨i, hi, he⟩ := List.mem_iff_getElem.1 h
  exact ⟨i, hi, by rw [List.getD_eq_getElem?_getD, List.getElem?_eq_getElem hi, Option.getD_some, he]⟩
theorem LInv.tot (h : LInv c A B) : totL A + totL B ≤ 2 * (c.length * (3 * c.length)) := by
  have h1 := totL_le (n := 3 * c.length) A (fun l hl => by obtain ⟨i, _, rfl⟩ := row_of hl; exact h.lenA i)
  have h2 := totL_le (n := 3 * c.length) B (fun l hl => by obtain ⟨i, _, rfl⟩ := row_of hl; exact h.lenB i)
  rw [h.lA] at h1
  rw [h.lB] at h2
  omega
theorem LInv.grows (h : LInv c A B) (hc : c.length ≤ 1000) {i : Nat} (hi : i < c.length) : live_grow.f c A B (i : Int) = some (AtA c A B i, AtB c A B i, decide ((A.getD i []).length + (B.getD i []).length < (AtA c A B i).length + (AtB c A B i).length)) := by
  have hs := h.step hi
  have e1 := hs.lenA i
  have e2 := hs.lenB i
  rw [getD_set _ _ _ _ (by rw [h.lA]; exact hi), if_pos rfl] at e1
  rw [getD_set _ _ _ _ (by rw [h.lB]; exact hi), if_pos rfl] at e2
  have e3 := h.lenA i
  have e4 := h.lenB i
  have e5 := nxL_len c (i : Int)
  have e6 := useQ_len (c.getD i z28)
  unfold live_grow.f
  rw [live_next_some c (i : Int) (by omega) (by omega), Option.bind_some]
  simp only [show rd_T28 c (i : Int) = c.getD i z28 by unfold rd_T28; rw [Int.toNat_natCast], Int.toNat_natCast]
  have a1 : (nxL c (i : Int)).length ≤ 1000000 := by omega
  have a2 : (useQ (c.getD i z28)).length ≤ 1000000 := by omega
  have a3 : (A.getD i []).length + (B.getD i []).length ≤ 1000000 := by omega
  have a4 : (AtA c A B i).length + (AtB c A B i).length ≤ 1000000 := by omega
  exact if_pos ⟨a1, a2, a3, a4⟩
theorem LInv.subA (h : LInv c A B) (i : Nat) : (A.getD i []).length ≤ (AtA c A B i).length := nodup_len (up_nodup (getD_up h.uA i)) (fun r hr => (h.memA i r).2 (.inl hr))
theorem LInv.subB (h : LInv c A B) (i : Nat) : (B.getD i []).length ≤ (AtB c A B i).length := nodup_len (up_nodup (getD_up h.uB i)) (fun r hr => (h.memB i r).2 (.inl hr))
theorem set_same {L : List (List Int)} {i : Nat} {l : List Int} (h : l = L.getD i []) : L.set i l = L := by
  subst h
  refine List.ext_getElem (by simp) (fun j h1 h2 => ?_)
  rw [List.getElem_set]
  split
  · rename_i e; subst e
    rw [List.getD_eq_getElem?_getD, List.getElem?_eq_getElem h2]; rfl
  · rfl
theorem LInv.pass (hc : c.length ≤ 1000) : ∀ (i : Nat) (A B : List (List Int)) (g : Bool), i ≤ c.length → LInv c A B → ∃ A' B' g', live_pass.f c i A B g = some (A', B', g') ∧ LInv c A' B' ∧ totL A + totL B ≤ totL A' + totL B' ∧ (g' = true → g = true ∨ totL A + totL B < totL A' + totL B') ∧
    (g' = false → g = false ∧ A' = A ∧ B' = B ∧ ∀ j, j < i → AtA c A B j = A.getD j [] ∧ AtB c A B j = B.getD j [])
  | 0, A, B, g, _, h => ⟨A, B, g, rfl, h, Nat.le_refl _, fun e => .inl e, fun e => ⟨e, rfl, rfl, fun j hj => absurd hj (by omega)⟩⟩
  | i + 1, A, B, g, hi, h => by
    have hil : i < c.length := by omega
    have hs := h.step hil
    have tA := totL_set A i (AtA c A B i) (by rw [h.lA]; exact hil)
    have tB := totL_set B i (AtB c A B i) (by rw [h.lB]; exact hil)
    have sA := h.subA i
    have sB := h.subB i
    obtain ⟨A', B', g', e, hI, ht, hg1, hg2⟩ := LInv.pass hc i _ _ (g || decide ((A.getD i []).length + (B.getD i []).length < (AtA c A B i).length + (AtB c A B i).length)) (by omega) hs
    refine ⟨A', B', g', ?_, hI, by omega, fun e1 => ?_, fun e1 => ?_⟩
    · unfold live_pass.f
      rw [h.grows hc hil, Option.bind_some]
      exact e
    · rcases hg1 e1 with h1 | h1
      · rw [Bool.or_eq_true, decide_eq_true_eq] at h1
        rcases h1 with h1 | h1
        · exact .inl h1
        · right; omega
      · right; omega
    · obtain ⟨h1, h2, h3, h4⟩ := hg2 e1
      rw [Bool.or_eq_false_iff, decide_eq_false_iff_not] at h1
      obtain ⟨g0, hlen⟩ := h1
      have eA := up_len (getD_up h.uA i) (h.upA i) (fun r hr => (h.memA i r).2 (.inl hr)) (by omega)
      have eB := up_len (getD_up h.uB i) (h.upB i) (fun r hr => (h.memB i r).2 (.inl hr)) (by omega)
      have fzA : A.set i (AtA c A B i) = A := set_same eA
      have fzB : B.set i (AtB c A B i) = B := set_same eB
      rw [fzA] at h2
      rw [fzB] at h3
      rw [fzA, fzB] at h4
      refine ⟨g0, h2, h3, fun j hj => ?_⟩
      by_cases hji : j = i
      · subst hji; exact ⟨eA, eB⟩
      · exact h4 j (by omega)
theorem LInv.loop (hc : c.length ≤ 1000) : ∀ (d : Nat) (A B : List (List Int)), LInv c A B → 2 * (c.length * (3 * c.length)) ≤ totL A + totL B + d → ∃ A' B', live_flow.l c (d + 1) A B = some (A', B') ∧ LInv c A' B' ∧ ∀ j, j < c.length → AtA c A' B' j = A'.getD j [] ∧ AtB c A' B' j = B'.getD j [] := by
  intro d
  induction d with
  | zero =>
    intro A B h hd
    obtain ⟨A', B', g', e, hI, ht, hg1, hg2⟩ := LInv.pass hc c.length A B false (Nat.le_refl _) h
    have htot := hI.tot
    cases g' with
    | true =>
      rcases hg1 rfl with h1 | h1
      · exact absurd h1 (by simp)
      · omega
    | false =>
      obtain ⟨_, rfl, rfl, h4⟩ := hg2 rfl
      refine ⟨A', B', ?_, hI, h4⟩
      unfold live_flow.l
      rw [e]
      rfl
  | succ d ih =>
    intro A B h hd
    obtain ⟨A', B', g', e, hI, ht, hg1, hg2⟩ := LInv.pass hc c.length A B false (Nat.le_refl _) h
    cases g' with
    | true =>
      rcases hg1 rfl with h1 | h1
      · exact absurd h1 (by simp)
      · obtain ⟨A2, B2, e2, h2⟩ := ih A' B' hI (by omega)
        refine ⟨A2, B2, ?_, h2⟩
        unfold live_flow.l
        rw [e]
        exact e2
    | false =>
      obtain ⟨_, rfl, rfl, h4⟩ := hg2 rfl
      refine ⟨A', B', ?_, hI, h4⟩
      unfold live_flow.l
      rw [e]
      rfl
end
structure FlowS (c : List S28) (A B : List (List Int)) : Prop where
  lA : A.length = c.length
  lB : B.length = c.length
  uA : ∀ l ∈ A, l.Pairwise (· < ·)
  uB : ∀ l ∈ B, l.Pairwise (· < ·)
  nA : ∀ i : Nat, (A.getD i []).length ≤ 3 * c.length
  nB : ∀ i : Nat, (B.getD i []).length ≤ 3 * c.length
  sgA : ∀ (i : Nat) (r : Int), r ∈ A.getD i [] → r ∈ usedQ c
  sgB : ∀ (i : Nat) (r : Int), r ∈ B.getD i [] → r ∈ usedQ c
  mB : ∀ i : Nat, i < c.length → ∀ r, r ∈ B.getD i [] ↔ ∃ m ∈ nxL c (i : Int), r ∈ A.getD m.toNat []
  mA : ∀ i : Nat, i < c.length → ∀ r, r ∈ A.getD i [] ↔ r ∈ UL c i ∨ (r ∈ B.getD i [] ∧ r ≠ DL c i)
  need : ∀ i : Nat, i < c.length → ∀ r, r ∈ A.getD i [] ↔ NeedP c r i
theorem flow_spec (c : List S28) (hc : c.length ≤ 1000) : ∃ A B, Ev (fun k => live_flow.f k c) (A, B) ∧ FlowS c A B := by
  have e0 : ∀ i : Nat, (List.replicate c.length ([] : List Int)).getD i [] = [] := fun i => by
    rw [List.getD_eq_getElem?_getD, List.getElem?_replicate]
    split <;> rfl
  have h0 : LInv c (List.replicate c.length []) (List.replicate c.length []) := by
    refine ⟨by simp, by simp, fun l hl => ?_, fun l hl => ?_, fun i r hr => ?_, fun i r hr => ?_, fun i _ r hr => ?_, fun i _ r hr => ?_, fun i _ r hr => ?_⟩
    · rw [List.eq_of_mem_replicate hl]; exact List.Pairwise.nil
    · rw [List.eq_of_mem_replicate hl]; exact List.Pairwise.nil
    all_goals (rw [e0] at hr; exact absurd hr (by simp))
  obtain ⟨A, B, e, hI, hf⟩ := LInv.loop hc (2 * (c.length * (3 * c.length))) _ _ h0 (by omega)
  have hmB : ∀ i : Nat, i < c.length → ∀ r, r ∈ B.getD i [] ↔ ∃ m ∈ nxL c (i : Int), r ∈ A.getD m.toNat [] := fun i hi r => by
    constructor
    · exact hI.soB i hi r
    · intro h
      rw [← (hf i hi).2]
      exact (hI.memB i r).2 (.inr h)
  have hmA : ∀ i : Nat, i < c.length → ∀ r, r ∈ A.getD i [] ↔ r ∈ UL c i ∨ (r ∈ B.getD i [] ∧ r ≠ DL c i) := fun i hi r => by
    constructor
    · exact hI.soA i hi r
    · intro h
      rw [← (hf i hi).1]
      refine (hI.memA i r).2 ?_
      rw [(hf i hi).2]
      rcases h with h | h
      · exact .inr (.inr h)
      · exact .inr (.inl h)
  refine ⟨A, B, ?_, hI.lA, hI.lB, hI.uA, hI.uB, hI.lenA, hI.lenB, hI.sgA, hI.sgB, hmB, hmA, fun i hi r => ⟨hI.need i hi r, fun hn => ?_⟩⟩
  · refine Ev.of (live_flow.mono c) (k := 2 * (c.length * (3 * c.length)) + 1) ?_
    show live_flow.f _ c = _
    unfold live_flow.f
    rw [if_pos (by omega)]
    exact e
  · clear hi
    induction hn with
    | use hi hu => exact (hmA _ hi r).2 (.inl hu)
    | step hi hd hm _ ih => exact (hmA _ hi r).2 (.inr ⟨(hmB _ hi r).2 ⟨_, hm, ih⟩, hd⟩)
end Go.Proofs.YtdopacgaklaaeaaDoor.PDeadRuns
