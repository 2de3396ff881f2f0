import Derived.Test.YtianfjhhhhmjlaaDoorPLiveTellsx0
import Derived.Test.YtianfjhhhhmjlaaDoorPLiveTellshinsl
import Derived.Test.YtianfjhhhhmjlaaDoorPLiveTellshuses
namespace Go.Proofs.YtianfjhhhhmjlaaDoor.PLiveTells
open Go.RowKit Go.Proofs.YtianfjhhhhmjlaaDoorW.PrintWords Go.Proofs.YtianfjhhhhmjlaaDoorW.PrintLast Go.Proofs.YtianfjhhhhmjlaaDoorW.PrintMore
set_option linter.unusedVariables false
set_option linter.unusedSimpArgs false
/-! All registers of a code, rising. -/
def touchL (x : S39) : List Int := if defL x ≥ 0 then usesL x ++ [defL x] else usesL x
def regsL (c : List S39) : List Int := c.foldl (fun out x => (touchL x).foldl insL out) []
theorem foldTouch : ∀ (c : List S39) (out : List Int), out.Pairwise (· < ·) → (c.foldl (fun out x => (touchL x).foldl insL out) out).Pairwise (· < ·) ∧ (∀ i, i ∈ c.foldl (fun out x => (touchL x).foldl insL out) out ↔ i ∈ out ∨ ∃ x ∈ c, i ∈ touchL x)
  | [], out, hp => ⟨hp, by simp⟩
  | x :: c, out, hp => by
    obtain ⟨h1, h2, _⟩ := foldIns (touchL x) out hp
    obtain ⟨h3, h4⟩ := foldTouch c _ h1
    refine ⟨h3, fun i => ?_⟩
    simp only [List.foldl_cons, h4, h2, List.mem_cons, exists_eq_or_imp, or_assoc]
theorem mem_touchL (x : S39) (i : Int) : i ∈ touchL x ↔ i ∈ usesL x ∨ (i = defL x ∧ 0 ≤ defL x) := by
  unfold touchL
  by_cases h : defL x ≥ 0
  · have h' : 0 ≤ defL x := by omega
    rw [if_pos h]; simp [h']
  · have h' : ¬ 0 ≤ defL x := by omega
    rw [if_neg h]; simp [h']
theorem regsL_spec (c : List S39) : (regsL c).Pairwise (· < ·) ∧ ∀ i, i ∈ regsL c ↔ ∃ x ∈ c, i ∈ usesL x ∨ (i = defL x ∧ 0 ≤ defL x) := by
  obtain ⟨a, b⟩ := foldTouch c [] List.Pairwise.nil
  refine ⟨a, fun i => ?_⟩
  unfold regsL
  rw [b]
  simp only [List.not_mem_nil, false_or, mem_touchL]
theorem touchL_len (x : S39) : (touchL x).length ≤ 4 := by
  obtain ⟨_, _, h⟩ := usesL_spec x
  unfold touchL
  split
  · simp; omega
  · omega
end Go.Proofs.YtianfjhhhhmjlaaDoor.PLiveTells
