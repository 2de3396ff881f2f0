import Derived.Test.YtdopacgaklaaeaaDoorPDeadTellsx0
import Derived.Test.YtdopacgaklaaeaaDoorPDeadTellshsml
import Derived.Test.YtdopacgaklaaeaaDoorPDeadTellshchk
import Derived.Test.YtdopacgaklaaeaaDoorPDeadTellsx12
import Derived.Test.YtdopacgaklaaeaaDoorPDeadTellshplain0
namespace Go.Proofs.YtdopacgaklaaeaaDoor.PDeadTells
open Go.RowKit Go.Proofs.YtdopacgaklaaeaaDoorW.PrintWords Go.Proofs.YtdopacgaklaaeaaDoorW.PrintLast Go.Proofs.YtdopacgaklaaeaaDoorW.PrintMore
set_option linter.unusedVariables false
set_option linter.unusedSimpArgs false
/-! All registers of a code, rising. -/
def touchL (x : S28) : List Int := if defL x ≥ 0 then usesL x ++ [defL x] else usesL x
def regsL (c : List S28) : List Int := c.foldl (fun out x => (touchL x).foldl insL out) []
theorem foldTouch : ∀ (c : List S28) (out : List Int), out.Pairwise (· < ·) → (c.foldl (fun out x => (touchL x).foldl insL out) out).Pairwise (· < ·) ∧ (∀ i, i ∈ c.foldl (fun out x => (touchL x).foldl insL out) out ↔ i ∈ out ∨ ∃ x ∈ c, i ∈ touchL x)
  | [], out, hp => ⟨hp, by simp⟩
  | x :: c, out, hp => by
    obtain ⟨h1, h2, _⟩ := foldIns (touchL x) out hp
    obtain ⟨h3, h4⟩ := foldTouch c _ h1
    refine ⟨h3, fun i => ?_⟩
    simp only [List.foldl_cons, h4, h2, List.mem_cons, exists_eq_or_imp, or_assoc]
theorem mem_touchL (x : S28) (i : Int) : i ∈ touchL x ↔ i ∈ usesL x ∨ (i = defL x ∧ 0 ≤ defL x) := by
  unfold touchL
  by_cases h : defL x ≥ 0
  · have h' : 0 ≤ defL x := by omega
    rw [if_pos h]; simp [h']
  · have h' : ¬ 0 ≤ defL x := by omega
    rw [if_neg h]; simp [h']
theorem regsL_spec (c : List S28) : (regsL c).Pairwise (· < ·) ∧ ∀ i, i ∈ regsL c ↔ ∃ x ∈ c, i ∈ usesL x ∨ (i = defL x ∧ 0 ≤ defL x) := by
  obtain ⟨a, b⟩ := foldTouch c [] List.Pairwise.nil
  refine ⟨a, fun i => ?_⟩
  unfold regsL
  rw [b]
  simp only [List.not_mem_nil, false_or, mem_touchL]
theorem touchL_len (x : S28) : (touchL x).length ≤ 4 := by
  obtain ⟨_, _, h⟩ := usesL_spec x
  unfold touchL
  split
  · simp; omega
  · omega
end Go.Proofs.YtdopacgaklaaeaaDoor.PDeadTells

namespace Go.Proofs.YtdopacgaklaaeaaDoor.PDeadTells
open Go.RowKit Go.Proofs.YtdopacgaklaaeaaDoorW.PrintWords Go.Proofs.YtdopacgaklaaeaaDoorW.PrintLast Go.Proofs.YtdopacgaklaaeaaDoorW.PrintMore
set_option linter.unusedVariables false
set_option linter.unusedSimpArgs false
/-! palingref15.Regs, in plain words. -/
theorem regs_spec (c : List S28) (hc : c.length ≤ 1073741824) : Ev (fun k => palingref15_Regs.f k c) (regsL c) := by
  have key : ∀ i : Int, 0 ≤ i → i ≤ c.length → ∀ out : List Int, out.length ≤ 4 * i → Ev (fun k => palingref15_Regs.l0 k c out i) ((c.drop i.toNat).foldl (fun out x => (touchL x).foldl insL out) out) := by
    refine up_ind ?_ ?_
    · intro out ho
      rw [List.drop_eq_nil_of_le (by omega)]
      exact Ev.step (fun k => rfl) (Ev.neg (by omega) (Ev.con rfl))
    · intro i h0 hi ih out ho
      rw [getD_drop c z28 i.toNat (by omega), show c.getD i.toNat z28 = rd_T28 c i from rfl, List.foldl_cons]
      rw [show (i + 1).toNat = i.toNat + 1 by omega] at ih
      have hw : wrap64 (i + 1) = i + 1 := wrap_up h0 hi (by omega)
      have h4 := touchL_len (rd_T28 c i)
      -- the inner loops
      have inner : ∀ (xs : List Int), xs.length ≤ 4 → ∀ j : Int, 0 ≤ j → j ≤ xs.length → ∀ o : List Int, o.length ≤ 4 * i + j → Ev (fun k => palingref15_Regs.l1 k c o i xs j) ((c.drop (i.toNat + 1)).foldl (fun out x => (touchL x).foldl insL out) ((xs.drop j.toNat).foldl insL o)) := by
        intro xs hxs
        refine up_ind ?_ ?_
        · intro o ho'
          rw [List.drop_eq_nil_of_le (by omega)]
          refine Ev.step (fun k => rfl) (Ev.neg (by omega) ?_)
          rw [hw]
          exact ih o (by omega)
        · intro j j0 hj ihj o ho'
          rw [getD_drop xs 0 j.toNat (by omega), show xs.getD j.toNat 0 = rd xs j from rfl, List.foldl_cons]
          rw [show (j + 1).toNat = j.toNat + 1 by omega] at ihj
          have hwj : wrap64 (j + 1) = j + 1 := wrap_up j0 hj (by omega)
          refine Ev.step (fun k => rfl) (Ev.pos hj ?_)
          have seek : ∀ q : Int, 0 ≤ q → q ≤ o.length → insL o (rd xs j) = o.take q.toNat ++ insL (o.drop q.toNat) (rd xs j) → Ev (fun k => palingref15_Regs.l2 k c o i xs j q) ((c.drop (i.toNat + 1)).foldl (fun out x => (touchL x).foldl insL out) ((xs.drop (j.toNat + 1)).foldl insL (insL o (rd xs j)))) := by
            refine up_ind ?_ ?_
            · intro he
              refine Ev.step (fun k => rfl) (Ev.neg (by omega) (Ev.pos (by omega) (Ev.pos (by omega) (Ev.bind (Ev.con rfl) (Ev.pos (by simp; omega) (Ev.bind (Ev.con rfl) (Ev.pos j0 (Ev.pos hj (Ev.pos (by simp; omega) (Ev.bind (Ev.con rfl) (Ev.bind (Ev.con rfl) (Ev.pos (by simp; omega) ?_))))))))))))
              rw [hwj]
              have hd : o.drop ((o.length : Int)).toNat = [] := List.drop_eq_nil_of_le (by omega)
              rw [hd] at he ⊢
              have := ihj (insL o (rd xs j)) (by have := insL_len (rd xs j) o; omega)
              rw [he] at this ⊢
              simpa [insL] using this
            · intro q q0 hq ihq he
              have hdq := getD_drop o 0 q.toNat (by omega)
              rw [show o.getD q.toNat 0 = rd o q from rfl] at hdq
              refine Ev.step (fun k => rfl) (Ev.pos hq (Ev.pos q0 (Ev.pos j0 (Ev.pos hj ?_))))
              by_cases c1 : rd o q < rd xs j
              · refine Ev.pos c1 ?_
                rw [wrap_up q0 hq (by omega)]
                refine ihq ?_
                rw [he, hdq, insL, if_pos c1, show (q + 1).toNat = q.toNat + 1 by omega, List.take_succ_eq_append_getElem (by omega)]
                have : o[q.toNat]'(by omega) = rd o q := by simp [rd, show q.toNat < o.length by omega]
                rw [this]
                simp
              · refine Ev.neg c1 ?_
                by_cases c2 : rd o q = rd xs j
                · refine Ev.pos c2 ?_
                  rw [hwj]
                  have hsame : insL o (rd xs j) = o := by
                    rw [he, hdq, insL, if_neg c1, if_pos c2, ← hdq, List.take_append_drop]
                  rw [hsame]
                  exact ihj o (by omega)
                · refine Ev.neg c2 (Ev.pos (by omega) (Ev.bind (Ev.con rfl) (Ev.pos (by simp; omega) (Ev.bind (Ev.con rfl) (Ev.pos (by simp; omega) (Ev.bind (Ev.con rfl) (Ev.bind (Ev.con rfl) (Ev.pos (by simp; omega) ?_))))))))
                  rw [hwj]
                  have hins : insL o (rd xs j) = [] ++ o.take q.toNat ++ [rd xs j] ++ o.drop q.toNat := by
                    rw [he, hdq, insL, if_neg c1, if_neg c2]; simp
                  have := ihj (insL o (rd xs j)) (by have := insL_len (rd xs j) o; omega)
                  rw [← hins]
                  exact this
          exact seek 0 (by omega) (by omega) (by simp)
      refine Ev.step (fun k => rfl) (Ev.pos hi (Ev.pos h0 (Ev.bind (uses_spec _) (Ev.bind (def_spec _) ?_))))
      have hu := (usesL_spec (rd_T28 c i)).2.2
      by_cases hd : defL (rd_T28 c i) ≥ 0
      · have ht : touchL (rd_T28 c i) = usesL (rd_T28 c i) ++ [defL (rd_T28 c i)] := by unfold touchL; rw [if_pos hd]
        rw [ht] at h4 ⊢
        refine Ev.pos hd (Ev.pos (by omega) (Ev.step (fun k => rfl) ?_))
        have hin := inner _ h4 0 (by omega) (by omega) out (by omega)
        rw [show (0 : Int).toNat = 0 from rfl, List.drop_zero] at hin
        exact hin
      · have ht : touchL (rd_T28 c i) = usesL (rd_T28 c i) := by unfold touchL; rw [if_neg hd]
        rw [ht] at h4 ⊢
        refine Ev.neg hd (Ev.step (fun k => rfl) ?_)
        have hin := inner _ h4 0 (by omega) (by omega) out (by omega)
        rw [show (0 : Int).toNat = 0 from rfl, List.drop_zero] at hin
        exact hin
  simpa [palingref15_Regs.f, regsL] using key 0 (by omega) (by omega) [] (by simp)
end Go.Proofs.YtdopacgaklaaeaaDoor.PDeadTells
