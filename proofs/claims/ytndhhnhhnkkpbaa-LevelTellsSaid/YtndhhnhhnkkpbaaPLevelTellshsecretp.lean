import Derived.Test.YtndhhnhhnkkpbaaPLevelTellsx0
import Derived.Test.YtndhhnhhnkkpbaaPLevelTellsx7
import Derived.Test.YtndhhnhhnkkpbaaPLevelTellsx8
import Derived.Test.YtndhhnhhnkkpbaaPLevelTellshcheck
import Derived.Test.YtndhhnhhnkkpbaaPLevelTellshlevel
import Derived.Test.YtndhhnhhnkkpbaaPLevelTellshpure
import Derived.Test.YtndhhnhhnkkpbaaPLevelTellshref11
import Derived.Test.YtndhhnhhnkkpbaaPLevelTellshregs15
import Derived.Test.YtndhhnhhnkkpbaaPLevelTellshsecret
import Derived.Test.YtndhhnhhnkkpbaaPLevelTellshuses
namespace Go.Proofs.Ytndhhnhhnkkpbaa.PLevelTells
open Go.RowKit Go.Proofs.YtndhhnhhnkkpbaaW.PrintWords Go.Proofs.YtndhhnhhnkkpbaaW.PrintLast Go.Proofs.YtndhhnhhnkkpbaaW.PrintMore
set_option linter.unusedVariables false
set_option linter.unusedSimpArgs false
/-! level.Secret against palingref20.Secret. -/
def passL (l : List S26) (c : List S36) (S : List Int) : List Int := c.foldl (secretStep l) S
def SecI (c : List S36) (S : List Int) : Prop := S.Nodup ∧ ∀ i ∈ S, ∃ x ∈ c, i = x.f2 ∧ (x.f0 = 1 ∨ x.f0 = 2 ∨ x.f0 = 3 ∨ x.f0 = 4)
theorem makes_kind {l : List S26} {S : List Int} {x : S36} (h : makesB l S x = true) : x.f0 = 1 ∨ x.f0 = 2 ∨ x.f0 = 3 ∨ x.f0 = 4 := by
  unfold makesB at h
  by_cases h4 : x.f0 = 4
  · exact .inr (.inr (.inr h4))
  · rw [if_neg h4] at h
    by_cases h1 : x.f0 = 1
    · exact .inl h1
    · rw [if_neg h1] at h
      by_cases h2 : x.f0 = 2
      · exact .inr (.inl h2)
      · rw [if_neg h2] at h
        by_cases h3 : x.f0 = 3
        · exact .inr (.inr (.inl h3))
        · rw [if_neg h3] at h; exact absurd h (by simp)
theorem step_inv {c : List S36} {l : List S26} {S : List Int} {x : S36} (hx : x ∈ c) (h : SecI c S) : SecI c (secretStep l S x) ∧ S.length ≤ (secretStep l S x).length ∧ ∃ T, secretStep l S x = S ++ T := by
  unfold secretStep
  by_cases hm : makesB l S x = true
  · rw [if_pos hm]
    by_cases hc : S.contains x.f2 = true
    · rw [if_pos hc]; exact ⟨h, Nat.le_refl _, [], by simp⟩
    · rw [if_neg hc]
      refine ⟨⟨?_, ?_⟩, by simp, _, rfl⟩
      · refine List.nodup_append.2 ⟨h.1, by simp, ?_⟩
        intro a ha b hb
        simp only [List.mem_singleton] at hb
        subst hb
        rintro rfl
        exact hc (by simpa using ha)
      · intro i hi
        simp only [List.mem_append, List.mem_singleton] at hi
        rcases hi with hi | hi
        · exact h.2 i hi
        · exact ⟨x, hx, hi, makes_kind hm⟩
  · rw [if_neg hm]; exact ⟨h, Nat.le_refl _, [], by simp⟩
theorem fold_inv {c : List S36} {l : List S26} : ∀ (d : List S36) (S : List Int), (∀ x ∈ d, x ∈ c) → SecI c S → SecI c (d.foldl (secretStep l) S) ∧ S.length ≤ (d.foldl (secretStep l) S).length ∧ ∃ T, d.foldl (secretStep l) S = S ++ T
  | [], S, _, h => ⟨h, Nat.le_refl _, [], by simp⟩
  | x :: d, S, hd, h => by
    obtain ⟨a, b, T, hT⟩ := step_inv (l := l) (hd x (by simp)) h
    obtain ⟨a', b', T', hT'⟩ := fold_inv (l := l) d (secretStep l S x) (fun y hy => hd y (by simp [hy])) a
    refine ⟨a', by simp only [List.foldl_cons]; omega, T ++ T', ?_⟩
    simp only [List.foldl_cons]
    rw [hT', hT, List.append_assoc]
theorem inv_len {c : List S36} {S : List Int} (h : SecI c S) : S.length ≤ c.length := by
  have := nodup_len (T := c.map (·.f2)) h.1 (fun i hi => by
    obtain ⟨x, hx, rfl, _⟩ := h.2 i hi
    exact List.mem_map.2 ⟨x, hx, rfl⟩)
  simpa using this
/-- one pass of the reference -/
theorem pass20_spec (c : List S36) (l : List S26) (hc : c.length ≤ 1073741824) (hl : l.length ≤ 1073741824) (R : List Int) : ∀ i : Int, 0 ≤ i → i ≤ c.length → ∀ (S : List Int) (m : Bool), SecI c S →
    Ev (fun k => palingref20_Secret.l0 k c l ((c.drop i.toNat).foldl (secretStep l) S) (m || decide (S.length < ((c.drop i.toNat).foldl (secretStep l) S).length))) R → Ev (fun k => palingref20_Secret.l1 k c l S m i) R := by
  refine up_ind ?_ ?_
  · intro S m hS h
    rw [List.drop_eq_nil_of_le (by omega)] at h
    refine Ev.step (fun k => rfl) (Ev.neg (by omega) ?_)
    simpa using h
  · intro i h0 hi ih S m hS h
    have hx : rd_T36 c i ∈ c := by
      have : c.getD i.toNat z36 ∈ c := by
        rw [List.getD_eq_getElem?_getD, List.getElem?_eq_getElem (by omega)]
        exact List.getElem_mem _
      exact this
    have hSl := inv_len hS
    rw [getD_drop c z36 i.toNat (by omega), show c.getD i.toNat z36 = rd_T36 c i from rfl, List.foldl_cons] at h
    rw [show (i + 1).toNat = i.toNat + 1 by omega] at ih
    have hw : wrap64 (i + 1) = i + 1 := wrap_up h0 hi (by omega)
    obtain ⟨a, b, _⟩ := step_inv (l := l) hx hS
    have hsub : ∀ y ∈ c.drop (i.toNat + 1), y ∈ c := fun y hy => List.mem_of_mem_drop hy
    have hmono := (fold_inv (l := l) (c.drop (i.toNat + 1)) _ hsub a).2.1
    refine Ev.step (fun k => rfl) (Ev.pos hi (Ev.pos h0 (Ev.bind (makes_spec _ l S (by omega) (by omega)) ?_)))
    cases hm : makesB l S (rd_T36 c i) with
    | false =>
      have e : secretStep l S (rd_T36 c i) = S := by unfold secretStep; rw [hm]; rfl
      rw [e] at h
      refine Ev.ff ?_
      rw [hw]
      exact ih S m hS h
    | true =>
      refine Ev.tt (Ev.bind (has20_spec S _ (by omega)) ?_)
      cases hq : S.contains (rd_T36 c i).f2 with
      | true =>
        have e : secretStep l S (rd_T36 c i) = S := by unfold secretStep; rw [hm, hq]; rfl
        rw [e] at h
        refine Ev.tt ?_
        rw [hw]
        exact ih S m hS h
      | false =>
        have e : secretStep l S (rd_T36 c i) = S ++ [(rd_T36 c i).f2] := by unfold secretStep; rw [hm, hq]; rfl
        rw [e] at h hmono a
        refine Ev.ff (Ev.pos (by omega) ?_)
        rw [hw]
        refine ih _ true a ?_
        have h1 : decide (S.length < ((c.drop (i.toNat + 1)).foldl (secretStep l) (S ++ [(rd_T36 c i).f2])).length) = true := by
          refine decide_eq_true ?_
          have : (S ++ [(rd_T36 c i).f2]).length = S.length + 1 := by simp
          omega
        rw [h1, Bool.or_true] at h
        rw [Bool.true_or]
        exact h
/-- what is left of the registers -/
theorem filt20_spec (S regs : List Int) (hS : S.length ≤ 1073741824) (hr : regs.length ≤ 1073741824) : ∀ i : Int, 0 ≤ i → i ≤ regs.length → ∀ out : List Int, out.length ≤ i → Ev (fun k => palingref20_Secret.l2 k S out regs i) (out ++ (regs.drop i.toNat).filter (fun r => S.contains r)) := by
  refine up_ind ?_ ?_
  · intro out ho
    rw [List.drop_eq_nil_of_le (by omega)]
    exact Ev.step (fun k => rfl) (Ev.neg (by omega) (Ev.con (by simp)))
  · intro i h0 hi ih out ho
    rw [getD_drop regs 0 i.toNat (by omega), show regs.getD i.toNat 0 = rd regs i from rfl]
    rw [show (i + 1).toNat = i.toNat + 1 by omega] at ih
    have hw : wrap64 (i + 1) = i + 1 := wrap_up h0 hi (by omega)
    refine Ev.step (fun k => rfl) (Ev.pos hi (Ev.pos h0 (Ev.bind (has20_spec S _ (by omega)) ?_)))
    cases hq : S.contains (rd regs i) with
    | true =>
      refine Ev.tt (Ev.pos (by omega) ?_)
      rw [hw, List.filter_cons, if_pos hq]
      simpa using ih (out ++ [rd regs i]) (by simp; omega)
    | false =>
      refine Ev.ff ?_
      rw [hw, List.filter_cons, if_neg (by rw [hq]; simp)]
      exact ih out (by omega)
theorem fix_both (c : List S36) (l : List S26) (hc : c.length ≤ 1073741824) (hl : l.length ≤ 1073741824) (hr : (regsL c).length ≤ 1073741824) : ∀ (d : Nat) (S : List Int), c.length - S.length = d → SecI c S →
    ∃ Sf, SecI c Sf ∧ (∃ T, Sf = S ++ T) ∧ (passL l c Sf).length = Sf.length ∧ (∀ was : Int, was < S.length → Ev (fun k => level_Secret.l0 k c l was S) Sf) ∧ Ev (fun k => palingref20_Secret.l0 k c l S true) ((regsL c).filter (fun r => Sf.contains r)) := by
  intro d
  induction d using Nat.strongRecOn with
  | _ d ih =>
    intro S hd hS
    obtain ⟨hS', hmono, T, hT⟩ := fold_inv (l := l) c S (fun _ h => h) hS
    have hSl' := inv_len hS'
    by_cases hg : S.length < (passL l c S).length
    · obtain ⟨Sf, f1, ⟨T', hT'⟩, f3, f4, f5⟩ := ih (c.length - (passL l c S).length) (by unfold passL at *; omega) (passL l c S) rfl hS'
      refine ⟨Sf, f1, ⟨T ++ T', by rw [hT', ← List.append_assoc]; congr 1⟩, f3, fun was hw => Ev.step (fun k => rfl) (Ev.pos hw (f4 S.length (by omega))), ?_⟩
      refine Ev.step (fun k => rfl) (pass20_spec c l hc hl _ 0 (by omega) (by omega) S false hS ?_)
      rw [show (0 : Int).toNat = 0 from rfl, List.drop_zero]
      have : (false || decide (S.length < (c.foldl (secretStep l) S).length)) = true := by simpa [passL] using hg
      rw [this]
      exact f5
    · have hsame : passL l c S = S := by
        have h1 : (passL l c S).length = S.length := by unfold passL at *; omega
        have h2 : passL l c S = S ++ T := hT
        rw [h2] at h1
        have : T = [] := by simpa using h1
        rw [h2, this]; simp
      refine ⟨S, hS, ⟨[], by simp⟩, by rw [hsame], fun was hw => Ev.step (fun k => rfl) (Ev.pos hw ?_), ?_⟩
      · have : c.foldl (secretStep l) S = S := hsame
        rw [this]
        exact Ev.step (fun k => rfl) (Ev.neg (by omega) (Ev.con rfl))
      · refine Ev.step (fun k => rfl) (pass20_spec c l hc hl _ 0 (by omega) (by omega) S false hS ?_)
        rw [show (0 : Int).toNat = 0 from rfl, List.drop_zero]
        have hs : c.foldl (secretStep l) S = S := hsame
        rw [hs]
        have : (false || decide (S.length < S.length)) = false := by simp
        rw [this]
        have hf := filt20_spec S (regsL c) (by omega) hr 0 (by omega) (by omega) [] (by simp)
        rw [show (0 : Int).toNat = 0 from rfl, List.drop_zero, List.nil_append] at hf
        exact Ev.step (f := fun k => (palingref15_Regs.f k c).bind fun t => palingref20_Secret.l2 k S [] t 0) (fun k => rfl) (Ev.bind (regs_spec c hc) hf)
theorem regsL_len (c : List S36) : (regsL c).length ≤ 4 * c.length := by
  have key : ∀ (d : List S36) (out : List Int), (d.foldl (fun out x => (touchL x).foldl insL out) out).length ≤ out.length + 4 * d.length := by
    intro d
    induction d with
    | nil => simp
    | cons x d ih =>
      intro out
      have h1 := ih ((touchL x).foldl insL out)
      have h2 : ∀ (xs out : List Int), (xs.foldl insL out).length ≤ out.length + xs.length := by
        intro xs
        induction xs with
        | nil => simp
        | cons y ys ihy =>
          intro o
          have a := ihy (insL o y)
          have b := insL_len y o
          simp only [List.foldl_cons, List.length_cons]
          omega
      have h3 := h2 (touchL x) out
      have h4 := touchL_len x
      simp only [List.foldl_cons, List.length_cons]
      omega
  simpa [regsL] using key c []
/-- The program's answer is the reference's, of a code that may be. -/
theorem secret_both (c : List S36) (l : List S26) (regs locks : Int) (hc : c.length ≤ 4096) (hl : l.length ≤ 1073741824) (hw : ∀ x ∈ c, (Lit.int .i64 x.f2).wf = true) (hck : ∀ x ∈ c, oneB x c.length regs locks = true) :
    ∃ Sf, SecI c Sf ∧ (passL l c Sf).length = Sf.length ∧ Ev (fun k => level_Secret.f k c l) (sortI Sf) ∧ Ev (fun k => palingref20_Secret.f k c l) (sortI Sf) := by
  have hr := regsL_len c
  obtain ⟨Sf, f1, _, f3, f4, f5⟩ := fix_both c l (by omega) hl (by omega) c.length [] (by simp) ⟨List.nodup_nil, by simp⟩
  have hlen := inv_len f1
  refine ⟨Sf, f1, f3, ?_, ?_⟩
  · have hg : c.length ≤ 9223372036854775807 ∧ l.length ≤ 9223372036854775807 := ⟨by omega, by omega⟩
    refine Ev.congr (f := fun k => (level_Secret.l0 k c l (-1) []).bind fun S => if S.all (fun i => (Lit.int .i64 i).wf) = true ∧ S.length * 8 ≤ 140737488355328 then some (sortI S) else none) (fun k => by unfold level_Secret.f; rw [if_pos hg]) (Ev.bind (f4 (-1) (by simp)) (Ev.con ?_))
    rw [if_pos]
    refine ⟨?_, by omega⟩
    rw [List.all_eq_true]
    intro i hi
    obtain ⟨x, hx, rfl, _⟩ := f1.2 i hi
    exact hw x hx
  · have he : (regsL c).filter (fun r => Sf.contains r) = sortI Sf := by
      obtain ⟨r1, r2⟩ := regsL_spec c
      refine sortI_eq (r1.filter _) (fun i => ?_) f1.1
      simp only [List.mem_filter, r2, List.contains_iff_mem]
      constructor
      · exact fun h => h.2
      · intro hi
        refine ⟨?_, hi⟩
        obtain ⟨x, hx, rfl, hk⟩ := f1.2 i hi
        have hD : fD x.f0 = true := by rcases hk with h | h | h | h <;> rw [h] <;> rfl
        have ho := hck x hx
        simp only [oneB, Bool.and_eq_true, hD] at ho
        have h2 := ho.2.1
        have hp : 0 ≤ x.f2 := by
          simp [regB] at h2
          exact h2.1
        exact ⟨x, hx, .inr ⟨by simp [defL, hD], by simp [defL, hD]; exact hp⟩⟩
    rw [← he]
    exact f5
end Go.Proofs.Ytndhhnhhnkkpbaa.PLevelTells
