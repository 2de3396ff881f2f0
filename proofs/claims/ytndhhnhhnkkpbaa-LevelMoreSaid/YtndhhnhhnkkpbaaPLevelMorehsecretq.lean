import Derived.Test.YtndhhnhhnkkpbaaPLevelMorex0
import Derived.Test.YtndhhnhhnkkpbaaPLevelMorehpure
import Derived.Test.YtndhhnhhnkkpbaaPLevelMorehsecret
namespace Go.Proofs.Ytndhhnhhnkkpbaa.PLevelMore
open Go.RowKit Go.Proofs.YtndhhnhhnkkpbaaW.PrintWords Go.Proofs.YtndhhnhhnkkpbaaW.PrintLast Go.Proofs.YtndhhnhhnkkpbaaW.PrintMore
set_option linter.unusedVariables false
set_option linter.unusedSimpArgs false
/-! level.Secret against palingref20.Secret. -/
def passL (l : List S26) (c : List S36) (S : List Int) : List Int := c.foldl (secretStep l) S
def SecI (c : List S36) (S : List Int) : Prop := S.Nodup ∧ ∀ i ∈ S, ∃ x ∈ c, i = x.f2 ∧ (x.f0 = 1 ∨ x.f0 = 2 ∨ x.f0 = 3 ∨ x.f0 = 4)
theorem makes_kind {l : List S26} {S : List Int} {x : S36} (h : makesB l S x = true) : x.f0 = 1 ∨ x.f0 = 2 ∨ x.f0 = 3 ∨ x.f0 = 4 := by
  unfold makesB at h
  by_cases h4 : x.f0 = 4
  · exact .inr (.inr (.inr h4))
  · rw [if_neg h4] at h
    by_cases h1 : x.f0 = 1
    · exact .inl h1
    · rw [if_neg h1] at h
      by_cases h2 : x.f0 = 2
      · exact .inr (.inl h2)
      · rw [if_neg h2] at h
        by_cases h3 : x.f0 = 3
        · exact .inr (.inr (.inl h3))
        · rw [if_neg h3] at h; exact absurd h (by simp)
theorem step_inv {c : List S36} {l : List S26} {S : List Int} {x : S36} (hx : x ∈ c) (h : SecI c S) : SecI c (secretStep l S x) ∧ S.length ≤ (secretStep l S x).length ∧ ∃ T, secretStep l S x = S ++ T := by
  unfold secretStep
  by_cases hm : makesB l S x = true
  · rw [if_pos hm]
    by_cases hc : S.contains x.f2 = true
    · rw [if_pos hc]; exact ⟨h, Nat.le_refl _, [], by simp⟩
    · rw [if_neg hc]
      refine ⟨⟨?_, ?_⟩, by simp, _, rfl⟩
      · refine List.nodup_append.2 ⟨h.1, by simp, ?_⟩
        intro a ha b hb
        simp only [List.mem_singleton] at hb
        subst hb
        rintro rfl
        exact hc (by simpa using ha)
      · intro i hi
        simp only [List.mem_append, List.mem_singleton] at hi
        rcases hi with hi | hi
        · exact h.2 i hi
        · exact ⟨x, hx, hi, makes_kind hm⟩
  · rw [if_neg hm]; exact ⟨h, Nat.le_refl _, [], by simp⟩
theorem fold_inv {c : List S36} {l : List S26} : ∀ (d : List S36) (S : List Int), (∀ x ∈ d, x ∈ c) → SecI c S → SecI c (d.foldl (secretStep l) S) ∧ S.length ≤ (d.foldl (secretStep l) S).length ∧ ∃ T, d.foldl (secretStep l) S = S ++ T
  | [], S, _, h => ⟨h, Nat.le_refl _, [], by simp⟩
  | x :: d, S, hd, h => by
    obtain ⟨a, b, T, hT⟩ := step_inv (l := l) (hd x (by simp)) h
    obtain ⟨a', b', T', hT'⟩ := fold_inv (l := l) d (secretStep l S x) (fun y hy => hd y (by simp [hy])) a
    refine ⟨a', by simp only [List.foldl_cons]; omega, T ++ T', ?_⟩
    simp only [List.foldl_cons]
    rw [hT', hT, List.append_assoc]
theorem inv_len {c : List S36} {S : List Int} (h : SecI c S) : S.length ≤ c.length := by
  have := nodup_len (T := c.map (·.f2)) h.1 (fun i hi => by
    obtain ⟨x, hx, rfl, _⟩ := h.2 i hi
    exact List.mem_map.2 ⟨x, hx, rfl⟩)
  simpa using this
def ClosedP (l : List S26) (c : List S36) (P : Int → Prop) : Prop := ∀ x ∈ c, ∀ U : List Int, (∀ i ∈ U, P i) → makesB l U x = true → P x.f2
theorem fold_P {l : List S26} {c : List S36} {P : Int → Prop} (hP : ClosedP l c P) : ∀ (d : List S36) (S : List Int), (∀ x ∈ d, x ∈ c) → (∀ i ∈ S, P i) → ∀ i ∈ d.foldl (secretStep l) S, P i
  | [], S, _, h => h
  | x :: d, S, hd, h => by
    refine fold_P hP d (secretStep l S x) (fun y hy => hd y (by simp [hy])) ?_
    unfold secretStep
    by_cases hm : makesB l S x = true
    · rw [if_pos hm]
      by_cases hc : S.contains x.f2 = true
      · rw [if_pos hc]; exact h
      · rw [if_neg hc]
        intro i hi
        simp only [List.mem_append, List.mem_singleton] at hi
        rcases hi with hi | rfl
        · exact h i hi
        · exact hP x (hd x (by simp)) S h hm
    · rw [if_neg hm]; exact h
theorem closed_of_len {l : List S26} : ∀ (d : List S36) (S : List Int), (d.foldl (secretStep l) S).length = S.length → ∀ x ∈ d, makesB l S x = true → x.f2 ∈ S
  | [], _, _, _, hx, _ => absurd hx (by simp)
  | y :: d, S, h, x, hx, hm => by
    have grow : ∀ (d : List S36) (S : List Int), S.length ≤ (d.foldl (secretStep l) S).length := by
      intro d
      induction d with
      | nil => simp
      | cons z d ih =>
        intro S
        have a := ih (secretStep l S z)
        have b : S.length ≤ (secretStep l S z).length := by
          unfold secretStep
          by_cases c1 : makesB l S z = true <;> by_cases c2 : S.contains z.f2 = true <;> simp only [c1, c2, if_true, if_false, Bool.false_eq_true, List.length_append] <;> omega
        simp only [List.foldl_cons]
        omega
    simp only [List.foldl_cons] at h
    have hg := grow d (secretStep l S y)
    have hsame : secretStep l S y = S ∧ (makesB l S y = true → y.f2 ∈ S) := by
      unfold secretStep at hg h ⊢
      by_cases c1 : makesB l S y = true
      · by_cases c2 : S.contains y.f2 = true
        · rw [if_pos c1, if_pos c2]; exact ⟨rfl, fun _ => by simpa using c2⟩
        · rw [if_pos c1, if_neg c2] at hg h
          simp only [List.length_append, List.length_singleton] at hg h
          omega
      · rw [if_neg c1]; exact ⟨rfl, fun e => absurd e c1⟩
    rw [hsame.1] at h
    rcases List.mem_cons.1 hx with rfl | hx
    · exact hsame.2 hm
    · exact closed_of_len d S h x hx hm
theorem fix_prog (c : List S36) (l : List S26) (hc : c.length ≤ 1073741824) : ∀ (d : Nat) (S : List Int), c.length - S.length = d → SecI c S →
    ∃ Sf, SecI c Sf ∧ (passL l c Sf).length = Sf.length ∧ (∀ P : Int → Prop, ClosedP l c P → (∀ i ∈ S, P i) → ∀ i ∈ Sf, P i) ∧ (∀ was : Int, was < S.length → Ev (fun k => level_Secret.l0 k c l was S) Sf) := by
  intro d
  induction d using Nat.strongRecOn with
  | _ d ih =>
    intro S hd hS
    obtain ⟨hS', hmono, T, hT⟩ := fold_inv (l := l) c S (fun _ h => h) hS
    have hSl' := inv_len hS'
    by_cases hg : S.length < (passL l c S).length
    · obtain ⟨Sf, f1, f3, fP, f4⟩ := ih (c.length - (passL l c S).length) (by unfold passL at *; omega) (passL l c S) rfl hS'
      exact ⟨Sf, f1, f3, fun P hP h => fP P hP (fold_P hP c S (fun _ h => h) h), fun was hw => Ev.step (fun k => rfl) (Ev.pos hw (f4 S.length (by omega)))⟩
    · have hsame : passL l c S = S := by
        have h1 : (passL l c S).length = S.length := by unfold passL at *; omega
        have h2 : passL l c S = S ++ T := hT
        rw [h2] at h1
        have : T = [] := by simpa using h1
        rw [h2, this]; simp
      refine ⟨S, hS, by rw [hsame], fun P hP h => h, fun was hw => Ev.step (fun k => rfl) (Ev.pos hw ?_)⟩
      have : c.foldl (secretStep l) S = S := hsame
      rw [this]
      exact Ev.step (fun k => rfl) (Ev.neg (by omega) (Ev.con rfl))
/-- The program's answer: the least set that is closed. -/
theorem secret_prog (c : List S36) (l : List S26) (hc : c.length ≤ 4096) (hl : l.length ≤ 1073741824) (hw : ∀ x ∈ c, (Lit.int .i64 x.f2).wf = true) :
    ∃ Sf, SecI c Sf ∧ (passL l c Sf).length = Sf.length ∧ (∀ P : Int → Prop, ClosedP l c P → ∀ i ∈ Sf, P i) ∧ Ev (fun k => level_Secret.f k c l) (sortI Sf) := by
  obtain ⟨Sf, f1, f3, fP, f4⟩ := fix_prog c l (by omega) c.length [] (by simp) ⟨List.nodup_nil, by simp⟩
  have hlen := inv_len f1
  refine ⟨Sf, f1, f3, fun P hP => fP P hP (by simp), ?_⟩
  have hg : c.length ≤ 9223372036854775807 ∧ l.length ≤ 9223372036854775807 := ⟨by omega, by omega⟩
  refine Ev.congr (f := fun k => (level_Secret.l0 k c l (-1) []).bind fun S => if S.all (fun i => (Lit.int .i64 i).wf) = true ∧ S.length * 8 ≤ 140737488355328 then some (sortI S) else none) (fun k => by unfold level_Secret.f; rw [if_pos hg]) (Ev.bind (f4 (-1) (by simp)) (Ev.con ?_))
  rw [if_pos]
  refine ⟨?_, by omega⟩
  rw [List.all_eq_true]
  intro i hi
  obtain ⟨x, hx, rfl, _⟩ := f1.2 i hi
  exact hw x hx
end Go.Proofs.Ytndhhnhhnkkpbaa.PLevelMore
