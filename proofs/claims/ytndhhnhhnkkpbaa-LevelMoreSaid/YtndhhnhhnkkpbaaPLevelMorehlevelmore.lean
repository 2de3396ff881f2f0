import Derived.Test.YtndhhnhhnkkpbaaPLevelMorex0
import Derived.Test.YtndhhnhhnkkpbaaPLevelMorex5
import Derived.Test.YtndhhnhhnkkpbaaPLevelMorehkeysBool
import Derived.Test.YtndhhnhhnkkpbaaPLevelMorehpure
import Derived.Test.YtndhhnhhnkkpbaaPLevelMorehsecret
namespace Go.Proofs.Ytndhhnhhnkkpbaa.PLevelMore
open Go.RowKit Go.Proofs.YtndhhnhhnkkpbaaW.PrintWords Go.Proofs.YtndhhnhhnkkpbaaW.PrintLast Go.Proofs.YtndhhnhhnkkpbaaW.PrintMore
set_option linter.unusedVariables false
set_option linter.unusedSimpArgs false
/-! palinglaw20's own helper, and level.Secret's plain facts. -/
theorem hasLaw_spec (l : List Int) (n : Int) (hl : l.length ≤ 4611686018427387904) : Ev (fun k => palinglaw20_has.f k l n) (l.contains n) := by
  have key : ∀ i : Int, 0 ≤ i → i ≤ l.length → Ev (fun k => palinglaw20_has.l0 k l n i) ((l.drop i.toNat).contains n) := by
    refine up_ind ?_ ?_
    · refine Ev.step (fun k => rfl) (Ev.neg (by omega) (Ev.con ?_))
      rw [List.drop_eq_nil_of_le (by omega)]
      rfl
    · intro i h0 hi ih
      refine Ev.step (fun k => rfl) (Ev.pos hi (Ev.pos h0 ?_))
      rw [getD_drop l 0 i.toNat (by omega), show l.getD i.toNat 0 = rd l i from rfl, wrap_up h0 hi hl, List.contains_cons]
      rw [show (i + 1).toNat = i.toNat + 1 by omega] at ih
      by_cases c : rd l i = n
      · exact Ev.pos c (Ev.con (by simp [c]))
      · refine Ev.neg c ?_
        rw [show (n == rd l i) = false by simpa using fun h => c h.symm, Bool.false_or]
        exact ih
  simpa [palinglaw20_has.f] using key 0 (by omega) (by omega)
theorem sortI_mem {S : List Int} (h : S.Nodup) (i : Int) : i ∈ sortI S ↔ i ∈ S := (sorted_of h).2.1 i
theorem sortI_len (S : List Int) : (sortI S).length = S.length := by rw [sortI, List.length_mergeSort]
theorem sortI_lt {S : List Int} (h : S.Nodup) (i : Int) (h0 : 0 < i) (h1 : i < (sortI S).length) : rd (sortI S) (i - 1) < rd (sortI S) i := by
  have hp : (sortI S).Pairwise (· < ·) := (sorted_of h).1
  generalize sortI S = L at *
  have := (List.pairwise_iff_getElem.1 hp) (i - 1).toNat i.toNat (by omega) (by omega) (by omega)
  have e1 : rd L (i - 1) = L[(i - 1).toNat]'(by omega) := by
    unfold rd; rw [List.getD_eq_getElem?_getD, List.getElem?_eq_getElem (by omega)]; rfl
  have e2 : rd L i = L[i.toNat]'(by omega) := by
    unfold rd; rw [List.getD_eq_getElem?_getD, List.getElem?_eq_getElem (by omega)]; rfl
  rw [e1, e2]; exact this
theorem rd_mem {S : List Int} (i : Int) (h0 : 0 ≤ i) (h1 : i < S.length) : rd S i ∈ S := by
  unfold rd
  rw [List.getD_eq_getElem?_getD, List.getElem?_eq_getElem (by omega)]
  exact List.getElem_mem _
end Go.Proofs.Ytndhhnhhnkkpbaa.PLevelMore
