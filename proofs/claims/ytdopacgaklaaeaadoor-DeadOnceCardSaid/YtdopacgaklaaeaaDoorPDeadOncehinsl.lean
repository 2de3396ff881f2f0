import Derived.Test.YtdopacgaklaaeaaDoorPDeadOncex0
namespace Go.Proofs.YtdopacgaklaaeaaDoor.PDeadOnce
open Go.RowKit Go.Proofs.YtdopacgaklaaeaaDoorW.PrintWords Go.Proofs.YtdopacgaklaaeaaDoorW.PrintLast Go.Proofs.YtdopacgaklaaeaaDoorW.PrintMore
set_option linter.unusedVariables false
set_option linter.unusedSimpArgs false
/-! A number put into a rising row. -/
def insL (out : List Int) (r : Int) : List Int :=
  match out with
  | [] => [r]
  | y :: ys => if y < r then y :: insL ys r else if y = r then y :: ys else r :: y :: ys
theorem insL_len (r : Int) : ∀ out : List Int, (insL out r).length ≤ out.length + 1
  | [] => by simp [insL]
  | y :: ys => by
    have := insL_len r ys
    unfold insL
    split
    · simp only [List.length_cons]; omega
    · split <;> simp only [List.length_cons] <;> omega
theorem insL_spec (r : Int) : ∀ out : List Int, out.Pairwise (· < ·) → (insL out r).Pairwise (· < ·) ∧ ∀ i, i ∈ insL out r ↔ i ∈ out ∨ i = r
  | [], _ => by simp [insL]
  | y :: ys, hp => by
    obtain ⟨p1, p2⟩ := List.pairwise_cons.1 hp
    obtain ⟨h1, h2⟩ := insL_spec r ys p2
    unfold insL
    by_cases c1 : y < r
    · rw [if_pos c1]
      refine ⟨List.pairwise_cons.2 ⟨fun i hi => ?_, h1⟩, fun i => ?_⟩
      · rcases (h2 i).1 hi with a | a
        · exact p1 i a
        · omega
      · simp only [List.mem_cons, h2]
        constructor
        · rintro (a | a | a)
          · exact .inl (.inl a)
          · exact .inl (.inr a)
          · exact .inr a
        · rintro ((a | a) | a)
          · exact .inl a
          · exact .inr (.inl a)
          · exact .inr (.inr a)
    · rw [if_neg c1]
      by_cases c2 : y = r
      · rw [if_pos c2]
        refine ⟨hp, fun i => ?_⟩
        simp only [List.mem_cons]
        constructor
        · exact .inl
        · rintro (a | a)
          · exact a
          · exact .inl (a.trans c2.symm)
      · rw [if_neg c2]
        refine ⟨List.pairwise_cons.2 ⟨fun i hi => ?_, hp⟩, fun i => ?_⟩
        · simp only [List.mem_cons] at hi
          rcases hi with a | a
          · omega
          · have := p1 i a; omega
        · simp only [List.mem_cons]
          constructor
          · rintro (a | a)
            · exact .inr a
            · exact .inl a
          · rintro (a | a)
            · exact .inr a
            · exact .inl a
theorem foldIns : ∀ (xs out : List Int), out.Pairwise (· < ·) → (xs.foldl insL out).Pairwise (· < ·) ∧ (∀ i, i ∈ xs.foldl insL out ↔ i ∈ out ∨ i ∈ xs) ∧ (xs.foldl insL out).length ≤ out.length + xs.length
  | [], out, hp => ⟨hp, by simp, by simp⟩
  | x :: xs, out, hp => by
    obtain ⟨a, b⟩ := insL_spec x out hp
    obtain ⟨h1, h2, h3⟩ := foldIns xs (insL out x) a
    refine ⟨h1, fun i => ?_, by have := insL_len x out; simp only [List.foldl_cons, List.length_cons]; omega⟩
    simp only [List.foldl_cons, h2, b, List.mem_cons, or_assoc]
end Go.Proofs.YtdopacgaklaaeaaDoor.PDeadOnce
