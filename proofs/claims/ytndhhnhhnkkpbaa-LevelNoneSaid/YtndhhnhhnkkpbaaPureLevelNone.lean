/- Without Loads no register has a secret; with a Move from one that has, its D has, too; all others stay. -/
import Derived.Test.YtndhhnhhnkkpbaaStmLevelNone
import Derived.Test.YtndhhnhhnkkpbaaPLevelNonex6
import Derived.Test.YtndhhnhhnkkpbaaPLevelNonehawake20
import Derived.Test.YtndhhnhhnkkpbaaPLevelNonehcheck
import Derived.Test.YtndhhnhhnkkpbaaPLevelNonehints
import Derived.Test.YtndhhnhhnkkpbaaPLevelNonehkeysBool
import Derived.Test.YtndhhnhhnkkpbaaPLevelNonehlevelmore
import Derived.Test.YtndhhnhhnkkpbaaPLevelNonehlevelright
import Derived.Test.YtndhhnhhnkkpbaaPLevelNonehpure
import Derived.Test.YtndhhnhhnkkpbaaPLevelNonehright
import Derived.Test.YtndhhnhhnkkpbaaPLevelNonehscan
import Derived.Test.YtndhhnhhnkkpbaaPLevelNonehsecret
import Derived.Test.YtndhhnhhnkkpbaaPLevelNonehsecretq
namespace Go.Proofs.Ytndhhnhhnkkpbaa.Pure
open Go.RowKit Go.Proofs.Ytndhhnhhnkkpbaa.PLevelNone Go.Proofs.YtndhhnhhnkkpbaaW.PrintWords Go.Proofs.YtndhhnhhnkkpbaaW.PrintLast Go.Proofs.YtndhhnhhnkkpbaaW.PrintMore
set_option linter.unusedVariables false
set_option linter.unusedSimpArgs false
theorem makes_sub {l : List S26} {S T : List Int} (hS : ∀ i ∈ S, i ∈ T) (x : S36) (h : makesB l S x = true) : makesB l T x = true := by
  unfold makesB at h ⊢
  by_cases c4 : x.f0 = 4
  · rw [if_pos c4] at h ⊢; exact h
  · rw [if_neg c4] at h ⊢
    have hc : ∀ i, S.contains i = true → T.contains i = true := fun i hi => by
      rw [List.contains_iff_mem] at hi ⊢; exact hS i hi
    by_cases c1 : x.f0 = 1
    · rw [if_pos c1] at h ⊢; exact hc _ h
    · rw [if_neg c1] at h ⊢
      by_cases c2 : x.f0 = 2
      · rw [if_pos c2] at h ⊢
        rw [Bool.or_eq_true] at h ⊢
        exact h.imp (hc _) (hc _)
      · rw [if_neg c2] at h ⊢
        by_cases c3 : x.f0 = 3
        · rw [if_pos c3] at h ⊢
          rw [Bool.or_eq_true] at h ⊢
          exact h.imp (hc _) (hc _)
        · rw [if_neg c3] at h; exact absurd h (by simp)
theorem none_makes {l : List S26} {U : List Int} {x : S36} (hU : ∀ i ∈ U, False) (hm : makesB l U x = true) : x.f0 = 4 := by
  have hUe : U = [] := by
    cases U with
    | nil => rfl
    | cons u U => exact absurd (hU u (by simp)) id
  subst hUe
  unfold makesB at hm
  by_cases c4 : x.f0 = 4
  · exact c4
  · rw [if_neg c4] at hm
    by_cases c1 : x.f0 = 1
    · rw [if_pos c1] at hm; exact absurd hm (by simp)
    · rw [if_neg c1] at hm
      by_cases c2 : x.f0 = 2
      · rw [if_pos c2] at hm; exact absurd hm (by simp)
      · rw [if_neg c2] at hm
        by_cases c3 : x.f0 = 3
        · rw [if_pos c3] at hm; exact absurd hm (by simp)
        · rw [if_neg c3] at hm; exact absurd hm (by simp)
theorem LevelNone : palinglaw20_LevelNone.Pure := by
  intro l0 l1 a2 hl0 hw0 hl1 hw1 hw2
  suffices h : Ev (fun k => palinglaw20_LevelNone.f k l0 l1 a2) true from h.rounds
  have out : Ev (fun k => palinglaw20_LevelNone.j0 k l0 l1 a2 true) true := Ev.step (f := fun _ => some true) (fun k => rfl) (Ev.con rfl)
  have ha : 0 ≤ a2 ∧ a2 ≤ 65535 := by simpa [Lit.wf, IntKind.min, IntKind.max, IntKind.signed, IntKind.bits] using hw2
  refine Ev.congr (fun k => rfl) (Ev.bind awake20 (Ev.tt ?_))
  by_cases c1 : (l0.length : Int) > 60
  · exact Ev.pos c1 out
  refine Ev.neg c1 ?_
  by_cases c2 : (l1.length : Int) > 30
  · exact Ev.pos c2 out
  refine Ev.neg c2 (Ev.bind (check_spec l0 30 9) ?_)
  cases hck : checkB l0 30 9 with
  | false => exact Ev.ff out
  | true =>
    refine Ev.tt (Ev.bind (right_spec l1 65536 (by omega)) ?_)
    generalize (decide ((65536 : Int) ≥ 0) && (decide ((65536 : Int) ≤ 65536) && !decide ((scanIdx (badArea 65536) (endArea 65536) 0 l1 0).1 ≥ 0))) = q
    cases q with
    | false => exact out
    | true =>
      obtain ⟨k1, k2, k3, _⟩ := check_facts hck
      have hwd : ∀ x ∈ l0, (Lit.int .i64 x.f2).wf = true := fun x hx => (hw0 x hx).2.2.1
      obtain ⟨Sf, s1, s2, s3, s4⟩ := secret_prog l0 l1 (by omega) (by omega) hwd
      have hw2' : wrap64 a2 = a2 := wrap_in (by omega) (by omega)
      have hdv : wrap64 (Int.tdiv a2 30) = a2 / 30 := by rw [Int.tdiv_eq_ediv_of_nonneg ha.1, wrap_in (by omega) (by omega)]
      obtain ⟨fr, hfr⟩ : ∃ fr, fr = Int.tmod (wrap64 a2) 30 := ⟨_, rfl⟩
      obtain ⟨tq, hto⟩ : ∃ tq, tq = Int.tmod (wrap64 (Int.tdiv (wrap64 a2) 30)) 30 := ⟨_, rfl⟩
      have gfr : 0 ≤ fr ∧ fr < 30 := by rw [hfr, hw2', Int.tmod_eq_emod_of_nonneg ha.1]; omega
      have gto : 0 ≤ tq ∧ tq < 30 := by rw [hto, hw2', hdv, Int.tmod_eq_emod_of_nonneg (by omega)]; omega
      have mfr : Int.tmod fr 30 = fr := by rw [Int.tmod_eq_emod_of_nonneg gfr.1]; omega
      have mto : Int.tmod tq 30 = tq := by rw [Int.tmod_eq_emod_of_nonneg gto.1]; omega
      obtain ⟨d, hd⟩ : ∃ d, d = l0 ++ [(⟨1, 0, tq, fr, 0, 0, 0⟩ : S36)] := ⟨_, rfl⟩
      have hdl : d.length = l0.length + 1 := by rw [hd]; simp
      obtain ⟨Tf, t1, t2, t3, t4⟩ := secret_prog d l1 (by omega) (by omega) (fun x hx => by
        rw [hd] at hx
        simp only [List.mem_append, List.mem_singleton] at hx
        rcases hx with hx | rfl
        · exact hwd x hx
        · show (Lit.int .i64 tq).wf = true
          simp [Lit.wf, IntKind.min, IntKind.max, IntKind.signed, IntKind.bits]
          omega)
      have hsl := inv_len s1
      have htl := inv_len t1
      have sub : ∀ i ∈ Sf, i ∈ Tf := s3 (· ∈ Tf) (fun x hx U hU hm => closed_of_len d Tf t2 x (by rw [hd]; simp [hx]) (makes_sub hU x hm))
      have himp : fr ∈ Sf → tq ∈ Tf := fun h => closed_of_len d Tf t2 ⟨1, 0, tq, fr, 0, 0, 0⟩ (by rw [hd]; simp) (by simpa [makesB] using sub _ h)
      have hsame : fr ∉ Sf → sortI Sf = sortI Tf := fun h => by
        refine sorted_ext (sorted_of s1.1).1 (sorted_of t1.1).1 (fun i => ?_)
        have e1 := sortI_mem s1.1 i
        have e2 := sortI_mem t1.1 i
        refine e1.trans (Iff.trans ⟨sub i, ?_⟩ e2.symm)
        refine t3 (· ∈ Sf) (fun x hx U hU hm => ?_) i
        have hm' := makes_sub hU x hm
        rw [hd] at hx
        simp only [List.mem_append, List.mem_singleton] at hx
        rcases hx with hx | rfl
        · exact closed_of_len l0 Sf s2 x hx hm'
        · exact absurd (by simpa [makesB] using hm') h
      have hsl' := sortI_len Sf
      have htl' := sortI_len Tf
      have c3 : (sortI Sf).contains fr = true ↔ fr ∈ Sf := by rw [List.contains_iff_mem]; exact sortI_mem s1.1 _
      have c4 : (sortI Tf).contains tq = true ↔ tq ∈ Tf := by rw [List.contains_iff_mem]; exact sortI_mem t1.1 _
      refine Ev.step (f := fun k => (level_Secret.f k l0 l1).bind fun t162 => palinglaw20_LevelNone.l0 k l0 l1 ((wrap64 a2).tmod 30) ((wrap64 ((wrap64 a2).tdiv 30)).tmod 30) t162 false 0) (fun k => rfl) (Ev.bind s4 ?_)
      rw [← hfr, ← hto]
      -- the last loop
      have L1 : ∀ b : Bool, (b = false → ∀ x ∈ l0, x.f0 ≠ 4) → ∀ i : Int, 0 ≤ i → i ≤ (sortI Sf).length → Ev (fun k => palinglaw20_LevelNone.l1 k (sortI Sf) b (sortI Tf) i) true := by
        intro b hb
        refine up_ind ?_ ?_
        · refine Ev.step (fun k => rfl) (Ev.neg (by omega) ?_)
          cases b with
          | true => exact Ev.tt (Ev.con rfl)
          | false =>
            refine Ev.ff (Ev.con ?_)
            have hno : ∀ i ∈ Sf, False := s3 (fun _ => False) (fun x hx U hU hm => hb rfl x hx (none_makes hU hm))
            have : Sf = [] := by
              cases Sf with
              | nil => rfl
              | cons u U => exact absurd (hno u (by simp)) id
            rw [hsl', this]
            rfl
        · intro i h0 hi ih
          have hw : wrap64 (i + 1) = i + 1 := wrap_up h0 hi (by omega)
          refine Ev.step (fun k => rfl) (Ev.pos hi (Ev.pos h0 (Ev.bind (hasLaw_spec (sortI Tf) _ (by omega)) ?_)))
          have hin : (sortI Tf).contains (rd (sortI Sf) i) = true := by
            rw [List.contains_iff_mem, sortI_mem t1.1]
            exact sub _ ((sortI_mem s1.1 _).1 (rd_mem i h0 hi))
          rw [hin]
          refine Ev.tt ?_
          rw [hw]
          exact ih
      have J2 : ∀ b : Bool, (b = false → ∀ x ∈ l0, x.f0 ≠ 4) → Ev (fun k => palinglaw20_LevelNone.j2 k (sortI Sf) b (sortI Tf) false) true := fun b hb => Ev.step (f := fun k => palinglaw20_LevelNone.l1 k (sortI Sf) b (sortI Tf) 0) (fun k => rfl) (L1 b hb 0 (by omega) (by omega))
      have L0 : ∀ i : Int, 0 ≤ i → i ≤ l0.length → ∀ b : Bool, (b = false → ∀ x ∈ l0.take i.toNat, x.f0 ≠ 4) → Ev (fun k => palinglaw20_LevelNone.l0 k l0 l1 fr tq (sortI Sf) b i) true := by
        refine up_ind ?_ ?_
        · intro b hb
          rw [Int.toNat_natCast, List.take_length] at hb
          refine Ev.step (fun k => rfl) (Ev.neg (by omega) (Ev.pos (by simp; omega) (Ev.bind (Ev.con rfl) (Ev.pos (by simp; omega) ?_))))
          rw [mto, mfr, List.nil_append, ← hd]
          refine Ev.bind t4 (Ev.bind (hasLaw_spec (sortI Sf) _ (by omega)) ?_)
          by_cases hq : fr ∈ Sf
          · rw [c3.2 hq]
            refine Ev.tt (Ev.bind (hasLaw_spec (sortI Tf) _ (by omega)) ?_)
            rw [c4.2 (himp hq)]
            refine Ev.tt (Ev.bind (hasLaw_spec (sortI Sf) _ (by omega)) ?_)
            rw [c3.2 hq]
            exact Ev.tt (J2 b hb)
          · have hf : (sortI Sf).contains fr = false := by
              cases hh : (sortI Sf).contains fr with
              | false => rfl
              | true => exact absurd (c3.1 hh) hq
            rw [hf]
            refine Ev.ff (Ev.bind (hasLaw_spec (sortI Sf) _ (by omega)) ?_)
            rw [hf]
            refine Ev.ff (Ev.bind (ints_spec _ _ (by omega)) ?_)
            rw [decide_eq_true (hsame hq)]
            exact J2 b hb
        · intro i h0 hi ih b hb
          have hw : wrap64 (i + 1) = i + 1 := wrap_up h0 hi (by omega)
          have htk : l0.take (i + 1).toNat = l0.take i.toNat ++ [rd_T36 l0 i] := by
            rw [show (i + 1).toNat = i.toNat + 1 by omega, List.take_add_one, List.getElem?_eq_getElem (by omega)]
            congr 1
            show [_] = [l0.getD i.toNat _]
            rw [List.getD_eq_getElem?_getD, List.getElem?_eq_getElem (by omega)]
            rfl
          refine Ev.step (fun k => rfl) (Ev.pos hi ?_)
          cases b with
          | true =>
            refine Ev.tt ?_
            rw [hw]
            exact ih true (by simp)
          | false =>
            refine Ev.ff (Ev.pos h0 ?_)
            rw [hw]
            refine ih _ (fun he x hx hx4 => ?_)
            rw [htk] at hx
            simp only [List.mem_append, List.mem_singleton] at hx
            rcases hx with hx | rfl
            · exact hb rfl x hx hx4
            · rw [hx4] at he; exact absurd he (by simp)
      exact L0 0 (by omega) (by omega) false (by simp)
end Go.Proofs.Ytndhhnhhnkkpbaa.Pure
