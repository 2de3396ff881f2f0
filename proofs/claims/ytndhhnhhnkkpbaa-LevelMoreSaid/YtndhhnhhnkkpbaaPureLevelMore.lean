/- With more secret areas no fewer registers are secret; they rise; with no secret area, where each Load is of an area, none is. -/
import Derived.Test.YtndhhnhhnkkpbaaStmLevelMore
import Derived.Test.YtndhhnhhnkkpbaaPLevelMorex6
import Derived.Test.YtndhhnhhnkkpbaaPLevelMoreharea
import Derived.Test.YtndhhnhhnkkpbaaPLevelMorehawake20
import Derived.Test.YtndhhnhhnkkpbaaPLevelMorehcheck
import Derived.Test.YtndhhnhhnkkpbaaPLevelMorehlevelmore
import Derived.Test.YtndhhnhhnkkpbaaPLevelMorehlevelright
import Derived.Test.YtndhhnhhnkkpbaaPLevelMorehpure
import Derived.Test.YtndhhnhhnkkpbaaPLevelMorehright
import Derived.Test.YtndhhnhhnkkpbaaPLevelMorehscan
import Derived.Test.YtndhhnhhnkkpbaaPLevelMorehsecret
import Derived.Test.YtndhhnhhnkkpbaaPLevelMorehsecretq
namespace Go.Proofs.Ytndhhnhhnkkpbaa.Pure
open Go.RowKit Go.Proofs.Ytndhhnhhnkkpbaa.PLevelMore Go.Proofs.YtndhhnhhnkkpbaaW.PrintWords Go.Proofs.YtndhhnhhnkkpbaaW.PrintLast Go.Proofs.YtndhhnhhnkkpbaaW.PrintMore
set_option linter.unusedVariables false
set_option linter.unusedSimpArgs false
def abF (x : S26) : Int × Int := (x.f0, x.f1)
def offF (x : S26) : S26 := ⟨x.f0, x.f1, false⟩
def onF (w n : Int) : Int → List S26 → List S26
  | _, [] => []
  | i, x :: xs => ⟨x.f0, x.f1, x.f2 || i == Int.tmod w n⟩ :: onF w n (i + 1) xs
theorem onF_ab (w n : Int) : ∀ (i : Int) (l : List S26), (onF w n i l).map abF = l.map abF
  | _, [] => rfl
  | i, x :: xs => by
    simp only [onF, List.map_cons, onF_ab w n (i + 1) xs]
    rfl
theorem onF_len (w n : Int) (i : Int) (l : List S26) : (onF w n i l).length = l.length := by
  have := congrArg List.length (onF_ab w n i l)
  simpa using this
theorem onF_more (w n : Int) : ∀ (i : Int) (l : List S26) (j : Nat), (l.getD j z26).f2 = true → ((onF w n i l).getD j z26).f2 = true
  | _, [], j, h => h
  | i, x :: xs, 0, h => by simp [onF] at h ⊢; simp [h]
  | i, x :: xs, j + 1, h => by
    simp only [onF, List.getD_cons_succ] at h ⊢
    exact onF_more w n (i + 1) xs j h
theorem off_ab (l : List S26) : (l.map offF).map abF = l.map abF := by
  rw [List.map_map]
  rfl
theorem off_no (l : List S26) (j : Nat) : ((l.map offF).getD j z26).f2 = false := by
  rw [List.getD_eq_getElem?_getD, List.getElem?_map]
  cases l[j]? <;> rfl
theorem scan_ab (word : Int) : ∀ (l m : List S26) (k : Nat), l.map abF = m.map abF → (scanIdx (σ := Unit) (fun _ => inArea word) (fun _ _ => ()) () l k).1 = (scanIdx (σ := Unit) (fun _ => inArea word) (fun _ _ => ()) () m k).1
  | [], [], _, _ => rfl
  | [], _ :: _, _, h => by simp at h
  | _ :: _, [], _, h => by simp at h
  | x :: l, y :: m, k, h => by
    simp only [List.map_cons, List.cons.injEq, abF, Prod.mk.injEq] at h
    have e : inArea word x = inArea word y := by simp only [inArea, h.1.1, h.1.2]
    unfold scanIdx
    rw [e]
    by_cases c : inArea word y = true
    · simp only [c, if_true]
    · rw [if_neg c, if_neg c]
      exact scan_ab word l m (k + 1) h.2
theorem areaIdx_ab {l m : List S26} (word : Int) (h : l.map abF = m.map abF) : areaIdx l word = areaIdx m word := scan_ab word l m 0 h
theorem makes_mono {l m : List S26} (h1 : l.map abF = m.map abF) (h2 : ∀ j, (l.getD j z26).f2 = true → (m.getD j z26).f2 = true) {S T : List Int} (hS : ∀ i ∈ S, i ∈ T) (x : S36) (h : makesB l S x = true) : makesB m T x = true := by
  unfold makesB at h ⊢
  by_cases c4 : x.f0 = 4
  · rw [if_pos c4] at h ⊢
    rw [← areaIdx_ab x.f5 h1]
    rw [Bool.or_eq_true] at h ⊢
    exact h.imp id (h2 _)
  · rw [if_neg c4] at h ⊢
    have hc : ∀ i, S.contains i = true → T.contains i = true := fun i hi => by
      rw [List.contains_iff_mem] at hi ⊢; exact hS i hi
    by_cases c1 : x.f0 = 1
    · rw [if_pos c1] at h ⊢; exact hc _ h
    · rw [if_neg c1] at h ⊢
      by_cases c2 : x.f0 = 2
      · rw [if_pos c2] at h ⊢
        rw [Bool.or_eq_true] at h ⊢
        exact h.imp (hc _) (hc _)
      · rw [if_neg c2] at h ⊢
        by_cases c3 : x.f0 = 3
        · rw [if_pos c3] at h ⊢
          rw [Bool.or_eq_true] at h ⊢
          exact h.imp (hc _) (hc _)
        · rw [if_neg c3] at h; exact absurd h (by simp)
theorem getD_mem (c : List S36) (i : Int) (h0 : 0 ≤ i) (h1 : i < c.length) : rd_T36 c i ∈ c := by
  have : c.getD i.toNat z36 ∈ c := by
    rw [List.getD_eq_getElem?_getD, List.getElem?_eq_getElem (by omega)]
    exact List.getElem_mem _
  exact this
theorem LevelMore : palinglaw20_LevelMore.Pure := by
  intro l0 l1 a2 hl0 hw0 hl1 hw1 hw2
  suffices h : Ev (fun k => palinglaw20_LevelMore.f k l0 l1 a2) true from h.rounds
  have out : Ev (fun k => palinglaw20_LevelMore.j0 k l0 l1 a2 true) true := Ev.step (f := fun _ => some true) (fun k => rfl) (Ev.con rfl)
  refine Ev.congr (fun k => rfl) (Ev.bind awake20 (Ev.tt ?_))
  by_cases c1 : (l0.length : Int) > 60
  · exact Ev.pos c1 out
  refine Ev.neg c1 ?_
  by_cases c2 : (l1.length : Int) > 30
  · exact Ev.pos c2 out
  refine Ev.neg c2 (Ev.bind (check_spec l0 30 9) ?_)
  cases hck : checkB l0 30 9 with
  | false => exact Ev.ff out
  | true =>
    refine Ev.tt (Ev.bind (right_spec l1 65536 (by omega)) ?_)
    generalize (decide ((65536 : Int) ≥ 0) && (decide ((65536 : Int) ≤ 65536) && !decide ((scanIdx (badArea 65536) (endArea 65536) 0 l1 0).1 ≥ 0))) = q
    cases q with
    | false => exact out
    | true =>
      obtain ⟨k1, k2, k3, _⟩ := check_facts hck
      have hwd : ∀ x ∈ l0, (Lit.int .i64 x.f2).wf = true := fun x hx => (hw0 x hx).2.2.1
      obtain ⟨Sf, s1, s2, s3, s4⟩ := secret_prog l0 l1 (by omega) (by omega) hwd
      have hml : (onF (wrap64 a2) l1.length 0 l1).length = l1.length := onF_len _ _ _ _
      obtain ⟨Tf, t1, t2, t3, t4⟩ := secret_prog l0 (onF (wrap64 a2) l1.length 0 l1) (by omega) (by omega) hwd
      obtain ⟨Nf, n1, n2, n3, n4⟩ := secret_prog l0 (l1.map offF) (by omega) (by simp; omega) hwd
      have hsl := inv_len s1
      have htl := inv_len t1
      have sub : ∀ i ∈ Sf, i ∈ Tf := s3 (· ∈ Tf) (fun x hx U hU hm => closed_of_len l0 Tf t2 x hx (makes_mono (onF_ab _ _ _ _).symm (onF_more _ _ _ _) hU x hm))
      refine Ev.step (f := fun k => (level_Secret.f k l0 l1).bind fun t162 => palinglaw20_LevelMore.l0 k l0 l1 a2 t162 [] [] 0) (fun k => rfl) (Ev.bind s4 ?_)
      -- the last loop
      have L2 : ∀ i : Int, 0 ≤ i → i ≤ l0.length → ∀ b : Bool, (b = true → ∀ x ∈ l0.take i.toNat, x.f0 = 4 → areaIdx l1 x.f5 ≥ 0) → Ev (fun k => palinglaw20_LevelMore.l2 k l0 l1 (l1.map offF) b i) true := by
        refine up_ind ?_ ?_
        · intro b hb
          refine Ev.step (fun k => rfl) (Ev.neg (by omega) ?_)
          cases b with
          | false => exact Ev.ff (Ev.con rfl)
          | true =>
            refine Ev.tt (Ev.bind n4 (Ev.con ?_))
            have hall := hb rfl
            rw [Int.toNat_natCast, List.take_length] at hall
            have hno : ∀ i ∈ Nf, False := n3 (fun _ => False) (fun x hx U hU hm => by
              have hUe : U = [] := by
                cases U with
                | nil => rfl
                | cons u U => exact absurd (hU u (by simp)) id
              subst hUe
              unfold makesB at hm
              by_cases c4 : x.f0 = 4
              · rw [if_pos c4, areaIdx_ab x.f5 (off_ab l1)] at hm
                have h1 := hall x hx c4
                rw [Bool.or_eq_true] at hm
                rcases hm with hm | hm
                · have := of_decide_eq_true hm; omega
                · have h2 := off_no l1 (areaIdx l1 x.f5).toNat
                  have h3 : (rd_T26 (l1.map offF) (areaIdx l1 x.f5)) = (l1.map offF).getD (areaIdx l1 x.f5).toNat z26 := rfl
                  rw [h3, h2] at hm
                  exact absurd hm (by simp)
              · rw [if_neg c4] at hm
                by_cases c1 : x.f0 = 1
                · rw [if_pos c1] at hm; exact absurd hm (by simp)
                · rw [if_neg c1] at hm
                  by_cases c2 : x.f0 = 2
                  · rw [if_pos c2] at hm; exact absurd hm (by simp)
                  · rw [if_neg c2] at hm
                    by_cases c3 : x.f0 = 3
                    · rw [if_pos c3] at hm; exact absurd hm (by simp)
                    · rw [if_neg c3] at hm; exact absurd hm (by simp))
            have : Nf = [] := by
              cases Nf with
              | nil => rfl
              | cons u U => exact absurd (hno u (by simp)) id
            rw [sortI_len, this]
            rfl
        · intro i h0 hi ih b hb
          have hw : wrap64 (i + 1) = i + 1 := wrap_up h0 hi (by omega)
          have htk : l0.take (i + 1).toNat = l0.take i.toNat ++ [rd_T36 l0 i] := by
            rw [show (i + 1).toNat = i.toNat + 1 by omega, List.take_add_one, List.getElem?_eq_getElem (by omega)]
            congr 1
            show [_] = [l0.getD i.toNat _]
            rw [List.getD_eq_getElem?_getD, List.getElem?_eq_getElem (by omega)]
            rfl
          refine Ev.step (fun k => rfl) (Ev.pos hi ?_)
          cases b with
          | false =>
            refine Ev.ff ?_
            rw [hw]
            exact ih false (by simp)
          | true =>
            refine Ev.tt (Ev.pos h0 ?_)
            by_cases c4 : (rd_T36 l0 i).f0 = 4
            · have hA : level_Area.f l1 (rd_T36 l0 i).f5 = some (areaIdx l1 (rd_T36 l0 i).f5) := by unfold level_Area.f; rw [if_pos (by omega)]; rfl
              refine Ev.pos c4 (Ev.bind (Ev.con hA) ?_)
              rw [hw]
              refine ih _ (fun hd x hx hx4 => ?_)
              rw [htk] at hx
              simp only [List.mem_append, List.mem_singleton] at hx
              rcases hx with hx | rfl
              · exact hb rfl x hx hx4
              · exact of_decide_eq_true hd
            · refine Ev.neg c4 ?_
              rw [hw]
              refine ih _ (fun hd x hx hx4 => ?_)
              rw [htk] at hx
              simp only [List.mem_append, List.mem_singleton] at hx
              rcases hx with hx | rfl
              · exact hb rfl x hx hx4
              · exact absurd hx4 c4
      -- the loop over the registers
      have hsl' := sortI_len Sf
      have htl' := sortI_len Tf
      have L1 : ∀ i : Int, 0 ≤ i → i ≤ (sortI Sf).length → Ev (fun k => palinglaw20_LevelMore.l1 k l0 l1 (sortI Sf) (l1.map offF) (sortI Tf) i) true := by
        refine up_ind ?_ ?_
        · exact Ev.step (fun k => rfl) (Ev.neg (by omega) (L2 0 (by omega) (by omega) true (by simp)))
        · intro i h0 hi ih
          have hw : wrap64 (i + 1) = i + 1 := wrap_up h0 hi (by omega)
          refine Ev.step (fun k => rfl) (Ev.pos hi (Ev.pos h0 (Ev.bind (hasLaw_spec (sortI Tf) _ (by omega)) ?_)))
          have hin : (sortI Tf).contains (rd (sortI Sf) i) = true := by
            rw [List.contains_iff_mem, sortI_mem t1.1]
            exact sub _ ((sortI_mem s1.1 _).1 (rd_mem i h0 hi))
          rw [hin]
          refine Ev.tt ?_
          rw [hw]
          by_cases c : i > 0
          · have hw1 : wrap64 (i - 1) = i - 1 := wrap_in (by omega) (by omega)
            have := sortI_lt s1.1 i c hi
            rw [hw1]
            exact Ev.pos c (Ev.pos (by omega) (Ev.pos (by omega) (Ev.neg (by omega) ih)))
          · exact Ev.neg c ih
      -- the loop that makes the areas
      have L0 : ∀ i : Int, 0 ≤ i → i ≤ l1.length → ∀ m n : List S26, m.length = i.toNat → n.length = i.toNat → m ++ onF (wrap64 a2) l1.length i (l1.drop i.toNat) = onF (wrap64 a2) l1.length 0 l1 → n ++ (l1.drop i.toNat).map offF = l1.map offF → Ev (fun k => palinglaw20_LevelMore.l0 k l0 l1 a2 (sortI Sf) m n i) true := by
        refine up_ind ?_ ?_
        · intro m n _ _ hm hn
          rw [List.drop_eq_nil_of_le (by omega)] at hm hn
          simp only [onF, List.append_nil, List.map_nil] at hm hn
          subst hm hn
          exact Ev.step (fun k => rfl) (Ev.neg (by omega) (Ev.bind t4 (L1 0 (by omega) (by omega))))
        · intro i h0 hi ih m n lm ln hm hn
          have hw : wrap64 (i + 1) = i + 1 := wrap_up h0 hi (by omega)
          rw [getD_drop l1 z26 i.toNat (by omega), show l1.getD i.toNat z26 = rd_T26 l1 i from rfl] at hm hn
          rw [show (i + 1).toNat = i.toNat + 1 by omega] at ih
          simp only [onF, List.map_cons] at hm hn
          have hn' : (n ++ [(⟨(rd_T26 l1 i).f0, (rd_T26 l1 i).f1, false⟩ : S26)]) ++ (l1.drop (i.toNat + 1)).map offF = l1.map offF := by
            rw [List.append_assoc]; exact hn
          refine Ev.step (fun k => rfl) (Ev.pos hi (Ev.pos h0 ?_))
          by_cases cs : (rd_T26 l1 i).f2 = true
          · refine Ev.pos cs (Ev.pos (by omega) (Ev.pos (by omega) ?_))
            rw [hw]
            refine ih _ _ (by simp [lm]) (by simp [ln]) ?_ hn'
            rw [List.append_assoc]
            simpa [cs] using hm
          · refine Ev.neg cs (Ev.neg (by omega) (Ev.pos (by omega) (Ev.pos (by omega) ?_)))
            rw [hw]
            refine ih _ _ (by simp [lm]) (by simp [ln]) ?_ hn'
            rw [List.append_assoc]
            simpa [cs] using hm
      exact L0 0 (by omega) (by omega) [] [] rfl rfl rfl rfl
end Go.Proofs.Ytndhhnhhnkkpbaa.Pure
