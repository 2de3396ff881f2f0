import Derived.Test.YtianfjhhhhmjlaaDoorPLiveTellsx0
import Derived.Test.YtianfjhhhhmjlaaDoorPLiveTellshforms
import Derived.Test.YtianfjhhhhmjlaaDoorPLiveTellshref11
namespace Go.Proofs.YtianfjhhhhmjlaaDoor.PLiveTells
open Go.RowKit Go.Proofs.YtianfjhhhhmjlaaDoorW.PrintWords Go.Proofs.YtianfjhhhhmjlaaDoorW.PrintLast Go.Proofs.YtianfjhhhhmjlaaDoorW.PrintMore
set_option linter.unusedVariables false
set_option linter.unusedSimpArgs false
/-! The program's table of forms is the reference's. -/
theorem form_tab (k : Int) : fD k = fmB 1 k ∧ fA k = fmB 2 k ∧ fB k = fmB 3 k ∧ fO k = fmB 4 k ∧ fN k = fmB 5 k ∧ fT k = fmB 6 k ∧ (k == 4 || k == 5) = fmB 7 k ∧ (k == 12 || k == 13) = fmB 9 k := by
  by_cases hk : 0 ≤ k ∧ k < 14
  · have : ∀ i : Fin 14, fD (i.val : Int) = fmB 1 i.val ∧ fA (i.val : Int) = fmB 2 i.val ∧ fB (i.val : Int) = fmB 3 i.val ∧ fO (i.val : Int) = fmB 4 i.val ∧ fN (i.val : Int) = fmB 5 i.val ∧ fT (i.val : Int) = fmB 6 i.val ∧ ((i.val : Int) == 4 || (i.val : Int) == 5) = fmB 7 i.val ∧ ((i.val : Int) == 12 || (i.val : Int) == 13) = fmB 9 i.val := by decide +kernel
    have := this ⟨k.toNat, by omega⟩
    simp only [show ((k.toNat : Nat) : Int) = k by omega] at this
    exact this
  · rw [fmB_out 1 (by decide) k hk, fmB_out 2 (by decide) k hk, fmB_out 3 (by decide) k hk, fmB_out 4 (by decide) k hk, fmB_out 5 (by decide) k hk, fmB_out 6 (by decide) k hk, fmB_out 7 (by decide) k hk, fmB_out 9 (by decide) k hk]
    have h1 : ∀ c : Int, 0 ≤ c → c < 14 → (k == c) = false := fun c h0 h1 => by simp; omega
    simp [fD, fA, fB, fO, fN, fT, h1]
theorem form_pick (k : Int) : fmB 8 k = (k == 3) := by
  by_cases hk : 0 ≤ k ∧ k < 14
  · have : ∀ i : Fin 14, fmB 8 (i.val : Int) = ((i.val : Int) == 3) := by decide +kernel
    have := this ⟨k.toNat, by omega⟩
    simp only [show ((k.toNat : Nat) : Int) = k by omega] at this
    exact this
  · rw [fmB_out 8 (by decide) k hk]
    simp; omega
end Go.Proofs.YtianfjhhhhmjlaaDoor.PLiveTells
