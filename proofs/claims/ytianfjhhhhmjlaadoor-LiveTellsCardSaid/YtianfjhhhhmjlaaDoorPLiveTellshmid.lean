import Derived.Test.YtianfjhhhhmjlaaDoorPLiveTellsx0
namespace Go.Proofs.YtianfjhhhhmjlaaDoor.PLiveTells
open Go.RowKit Go.Proofs.YtianfjhhhhmjlaaDoorW.PrintWords Go.Proofs.YtianfjhhhhmjlaaDoorW.PrintLast Go.Proofs.YtianfjhhhhmjlaaDoorW.PrintMore
set_option linter.unusedVariables false
set_option linter.unusedSimpArgs false
/-! Two rows of rows of one type: a set of blocks M that parts them. -/
section
variable {α β : Type} {d : Kd α} {d' : Kd β} {e e' : Nat} {base base' : Nat} {ok ok' : Nat → Prop} {v u : Value} {xs : List α} {ys : List β} {W w1 : World}
theorem mid_split (h1 : Kd.S d e W base ok v xs) (h2 : Kd.S d' e' w1 W.heap.size ok' u ys) (hb : Below W.heap.size W w1) :
    ∃ M : Nat → Prop, Kd.S d e w1 base (fun k => ok k ∧ (some k ≠ u.ownBlock ∧ ¬ M k)) v xs ∧ Kd.S d' e' w1 W.heap.size (fun k => ok' k ∧ (some k ≠ v.ownBlock ∧ M k)) u ys := by
  refine ⟨fun k => W.heap.size ≤ k, ?_, ?_⟩
  · have h3 := Kd.S_elder' (Kd.S_mono (Kd.S_bound h1) (fun k hk => (⟨hk.1, hk.2.2.1⟩ : ok k ∧ k < W.heap.size))) (Kd.S_base h2) hb
    exact Kd.S_mono h3 (fun k hk => ⟨hk.1.1, hk.2, Nat.not_le.2 hk.1.2⟩)
  · have h3 := Kd.S_new' (Kd.S_mono (Kd.S_bound h2) (fun k hk => (⟨hk.1, hk.2.1⟩ : ok' k ∧ W.heap.size ≤ k))) (Kd.S_lt h1)
    exact Kd.S_mono h3 (fun k hk => ⟨hk.1.1, hk.2, hk.1.2⟩)
variable {A A' B B' M : Nat → Prop}
theorem mid_cut (h1 : Kd.S d e W base (fun k => (A k ∧ ¬ M k) ∧ B k) v xs) (h2 : Kd.S d' e' W base' (fun k => (A' k ∧ M k) ∧ B' k) u ys) :
    ∃ M2 : Nat → Prop, (∀ k, W.heap.size ≤ k → ¬ M2 k) ∧ Kd.S d e W base (fun k => (A k ∧ ¬ M2 k) ∧ B k) v xs ∧ Kd.S d' e' W base' (fun k => (A' k ∧ M2 k) ∧ B' k) u ys := by
  refine ⟨fun k => M k ∧ k < W.heap.size, fun k h hk => absurd hk.2 (Nat.not_lt.2 h), ?_, ?_⟩
  · exact Kd.S_mono h1 (fun k hk => ⟨⟨hk.1.1, fun h => hk.1.2 h.1⟩, hk.2⟩)
  · exact Kd.S_mono (Kd.S_bound h2) (fun k hk => ⟨⟨hk.1.1.1, hk.1.1.2, hk.2.2.1⟩, hk.1.2⟩)
end
end Go.Proofs.YtianfjhhhhmjlaaDoor.PLiveTells
