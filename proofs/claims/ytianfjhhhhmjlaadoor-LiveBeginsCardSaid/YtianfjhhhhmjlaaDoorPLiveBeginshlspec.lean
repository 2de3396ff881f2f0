import Derived.Test.YtianfjhhhhmjlaaDoorPLiveBeginsx0
import Derived.Test.YtianfjhhhhmjlaaDoorPLiveBeginshcompregs
import Derived.Test.YtianfjhhhhmjlaaDoorPLiveBeginshforms
import Derived.Test.YtianfjhhhhmjlaaDoorPLiveBeginshinsl
import Derived.Test.YtianfjhhhhmjlaaDoorPLiveBeginshinsuses
import Derived.Test.YtianfjhhhhmjlaaDoorPLiveBeginshlenv
import Derived.Test.YtianfjhhhhmjlaaDoorPLiveBeginshlgrow
import Derived.Test.YtianfjhhhhmjlaaDoorPLiveBeginshlnx
import Derived.Test.YtianfjhhhhmjlaaDoorPLiveBeginshplain0
namespace Go.Proofs.YtianfjhhhhmjlaaDoor.PLiveBegins
open Go.RowKit Go.Proofs.YtianfjhhhhmjlaaDoorW.PrintWords Go.Proofs.YtianfjhhhhmjlaaDoorW.PrintLast Go.Proofs.YtianfjhhhhmjlaaDoorW.PrintMore
set_option linter.unusedVariables false
set_option linter.unusedSimpArgs false
/-! What live.flow comes to: the least rows of sets that the two rules ask for. -/
theorem useQ_mem (x : S39) (r : Int) : r ∈ useQ x ↔ 0 ≤ r ∧ ((fmB 2 x.f0 = true ∧ r = x.f3) ∨ (fmB 3 x.f0 = true ∧ r = x.f4) ∨ (fmB 8 x.f0 = true ∧ r = x.f2)) := by
  unfold useQ
  rw [(useRegs_spec _).2]
  unfold useL
  simp only [List.mem_append]
  constructor
  · rintro ⟨h, h0⟩
    refine ⟨h0, ?_⟩
    rcases h with (h | h) | h
    · left; split at h <;> simp_all
    · right; left; split at h <;> simp_all
    · right; right; split at h <;> simp_all
  · rintro ⟨h0, h⟩
    refine ⟨?_, h0⟩
    rcases h with ⟨h, rfl⟩ | ⟨h, rfl⟩ | ⟨h, rfl⟩ <;> simp [h]
theorem useQ_up (x : S39) : (useQ x).Pairwise (· < ·) := (useRegs_spec _).1
theorem useQ_len (x : S39) : (useQ x).length ≤ 3 := by
  refine nodup_len (T := [x.f3, x.f4, x.f2]) (up_nodup (useQ_up x)) (fun r hr => ?_)
  obtain ⟨_, h⟩ := (useQ_mem x r).1 hr
  rcases h with ⟨_, rfl⟩ | ⟨_, rfl⟩ | ⟨_, rfl⟩ <;> simp
def UL (c : List S39) (i : Nat) : List Int := useQ (c.getD i z39)
def DL (c : List S39) (i : Nat) : Int := defQ (c.getD i z39)
theorem mem_growB {A : List (List Int)} (r : Int) : ∀ (ns b : List Int), b.Pairwise (· < ·) → (r ∈ growB A ns b ↔ r ∈ b ∨ ∃ m ∈ ns, r ∈ A.getD m.toNat [])
  | [], b, _ => by simp [growB]
  | n :: ns, b, h => by
    obtain ⟨h1, h2, _⟩ := foldIns (A.getD n.toNat []) b h
    have := mem_growB (A := A) r ns _ h1
    show r ∈ growB A ns ((A.getD n.toNat []).foldl insL b) ↔ _
    rw [this, h2]
    simp only [List.mem_cons, exists_eq_or_imp, or_assoc]
theorem mem_growA (d r : Int) (us b a : List Int) (h : a.Pairwise (· < ·)) : r ∈ growA d us b a ↔ r ∈ a ∨ (r ∈ b ∧ r ≠ d) ∨ r ∈ us := by
  obtain ⟨h1, h2, _⟩ := foldIns (b.filter (fun i => !(i == d))) a h
  obtain ⟨_, h4, _⟩ := foldIns us _ h1
  unfold growA
  rw [h4, h2, List.mem_filter]
  simp only [Bool.not_eq_true', beq_eq_false_iff_ne, ne_eq, or_assoc]
/-- a register is needed ahead of a place: some way leads on, not over what writes it, to what reads it -/
inductive NeedP (c : List S39) (r : Int) : Nat → Prop
  | use {i : Nat} : i < c.length → r ∈ UL c i → NeedP c r i
  | step {i : Nat} {m : Int} : i < c.length → r ≠ DL c i → m ∈ nxL c (i : Int) → NeedP c r m.toNat → NeedP c r i
def usedQ (c : List S39) : List Int := (List.range c.length).flatMap (UL c)
theorem usedQ_len (c : List S39) : (usedQ c).length ≤ 3 * c.length := by
  have : ∀ l : List Nat, (l.flatMap (UL c)).length ≤ 3 * l.length := by
    intro l
    induction l with
    | nil => simp
    | cons a l ih =>
      have := useQ_len (c.getD a z39)
      rw [List.flatMap_cons, List.length_append, List.length_cons]
      have h2 : (UL c a).length ≤ 3 := this
      omega
  simpa [usedQ] using this (List.range c.length)
structure LInv (c : List S39) (A B : List (List Int)) : Prop where
  lA : A.length = c.length
  lB : B.length = c.length
  uA : ∀ l ∈ A, l.Pairwise (· < ·)
  uB : ∀ l ∈ B, l.Pairwise (· < ·)
  sgA : ∀ (i : Nat) (r : Int), r ∈ A.getD i [] → r ∈ usedQ c
  sgB : ∀ (i : Nat) (r : Int), r ∈ B.getD i [] → r ∈ usedQ c
  soB : ∀ i : Nat, i < c.length → ∀ r ∈ B.getD i [], ∃ m ∈ nxL c (i : Int), r ∈ A.getD m.toNat []
  soA : ∀ i : Nat, i < c.length → ∀ r ∈ A.getD i [], r ∈ UL c i ∨ (r ∈ B.getD i [] ∧ r ≠ DL c i)
  need : ∀ i : Nat, i < c.length → ∀ r ∈ A.getD i [], NeedP c r i
def AtA (c : List S39) (A B : List (List Int)) (i : Nat) : List Int := growA (DL c i) (UL c i) (growB A (nxL c (i : Int)) (B.getD i [])) (A.getD i [])
def AtB (c : List S39) (A B : List (List Int)) (i : Nat) : List Int := growB A (nxL c (i : Int)) (B.getD i [])
theorem getD_set {α : Type} (L : List (List α)) (i j : Nat) (l : List α) (hi : i < L.length) : (L.set i l).getD j [] = if j = i then l else L.getD j [] := by
  by_cases h : j = i
  · subst h
    rw [if_pos rfl, List.getD_eq_getElem?_getD, List.getElem?_set, if_pos rfl, if_pos hi]
    rfl
  · rw [if_neg h]
    simp only [List.getD_eq_getElem?_getD]
    rw [List.getElem?_set, if_neg (fun e => h e.symm)]
section
variable {c : List S39} {A B : List (List Int)}
theorem LInv.memB (h : LInv c A B) (i : Nat) (r : Int) : r ∈ AtB c A B i ↔ r ∈ B.getD i [] ∨ ∃ m ∈ nxL c (i : Int), r ∈ A.getD m.toNat [] := mem_growB r _ _ (getD_up h.uB i)
theorem LInv.memA (h : LInv c A B) (i : Nat) (r : Int) : r ∈ AtA c A B i ↔ r ∈ A.getD i [] ∨ (r ∈ AtB c A B i ∧ r ≠ DL c i) ∨ r ∈ UL c i := mem_growA _ r _ _ _ (getD_up h.uA i)
theorem LInv.upB (h : LInv c A B) (i : Nat) : (AtB c A B i).Pairwise (· < ·) := growB_up _ _ (getD_up h.uB i)
theorem LInv.upA (h : LInv c A B) (i : Nat) : (AtA c A B i).Pairwise (· < ·) := growA_up (getD_up h.uA i)
theorem LInv.step (h : LInv c A B) {i : Nat} (hi : i < c.length) : LInv c (A.set i (AtA c A B i)) (B.set i (AtB c A B i)) := by
  have hA : i < A.length := by rw [h.lA]; exact hi
  have hB : i < B.length := by rw [h.lB]; exact hi
  have gA := getD_set A i
  have gB := getD_set B i
  have monoA : ∀ (j : Nat) (r : Int), r ∈ A.getD j [] → r ∈ (A.set i (AtA c A B i)).getD j [] := fun j r hr => by
    rw [gA _ _ hA]
    split
    · rename_i e; subst e; exact (h.memA _ r).2 (.inl hr)
    · exact hr
  have bUsed : ∀ r ∈ AtB c A B i, r ∈ usedQ c := fun r hr => by
    rcases (h.memB i r).1 hr with h1 | ⟨m, _, h1⟩
    · exact h.sgB _ _ h1
    · exact h.sgA _ _ h1
  have uUsed : ∀ r ∈ UL c i, r ∈ usedQ c := fun r hr => List.mem_flatMap.2 ⟨i, List.mem_range.2 hi, hr⟩
  have needB : ∀ r ∈ AtB c A B i, ∃ m ∈ nxL c (i : Int), r ∈ A.getD m.toNat [] := fun r hr => by
    rcases (h.memB i r).1 hr with h1 | h1
    · exact h.soB i hi r h1
    · exact h1
  refine ⟨by rw [List.length_set]; exact h.lA, by rw [List.length_set]; exact h.lB, fun l hl => ?_, fun l hl => ?_, fun j r hr => ?_, fun j r hr => ?_, fun j hj r hr => ?_, fun j hj r hr => ?_, fun j hj r hr => ?_⟩
  · rcases List.mem_or_eq_of_mem_set hl with hl | rfl
    · exact h.uA l hl
    · exact h.upA i
  · rcases List.mem_or_eq_of_mem_set hl with hl | rfl
    · exact h.uB l hl
    · exact h.upB i
  · rw [gA _ _ hA] at hr
    split at hr
    · rcases (h.memA i r).1 hr with h1 | ⟨h1, _⟩ | h1
      · exact h.sgA _ _ h1
      · exact bUsed r h1
      · exact uUsed r h1
    · exact h.sgA _ _ hr
  · rw [gB _ _ hB] at hr
    split at hr
    · exact bUsed r hr
    · exact h.sgB _ _ hr
  · rw [gB _ _ hB] at hr
    split at hr
    · rename_i e; subst e
      obtain ⟨m, hm, h1⟩ := needB r hr
      exact ⟨m, hm, monoA _ _ h1⟩
    · obtain ⟨m, hm, h1⟩ := h.soB j hj r hr
      exact ⟨m, hm, monoA _ _ h1⟩
  · rw [gA _ _ hA] at hr
    rw [gB _ _ hB]
    split at hr
    · rename_i e; subst e
      rw [if_pos rfl]
      rcases (h.memA _ r).1 hr with h1 | h1 | h1
      · rcases h.soA _ hj r h1 with h2 | ⟨h2, h3⟩
        · exact .inl h2
        · exact .inr ⟨(h.memB _ r).2 (.inl h2), h3⟩
      · exact .inr h1
      · exact .inl h1
    · rename_i e
      rw [if_neg e]
      exact h.soA j hj r hr
  · rw [gA _ _ hA] at hr
    split at hr
    · rename_i e; subst e
      rcases (h.memA _ r).1 hr with h1 | ⟨h1, h2⟩ | h1
      · exact h.need _ hj r h1
      · obtain ⟨m, hm, h3⟩ := needB r h1
        have hin := nxL_in c (j : Int) m hm
        exact .step hj h2 hm (h.need m.toNat (by omega) r h3)
      · exact .use hj h1
    · exact h.need j hj r hr
end
end Go.Proofs.YtianfjhhhhmjlaaDoor.PLiveBegins
