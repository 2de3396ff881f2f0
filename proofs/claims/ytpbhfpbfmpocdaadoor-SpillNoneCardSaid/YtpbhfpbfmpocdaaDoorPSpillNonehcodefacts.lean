import Derived.Test.YtpbhfpbfmpocdaaDoorPSpillNonex0
import Derived.Test.YtpbhfpbfmpocdaaDoorPSpillNonehcheck
import Derived.Test.YtpbhfpbfmpocdaaDoorPSpillNonehputspec
import Derived.Test.YtpbhfpbfmpocdaaDoorPSpillNonehref11
import Derived.Test.YtpbhfpbfmpocdaaDoorPSpillNonehrefspill
import Derived.Test.YtpbhfpbfmpocdaaDoorPSpillNonehregs15
import Derived.Test.YtpbhfpbfmpocdaaDoorPSpillNonehplaces
import Derived.Test.YtpbhfpbfmpocdaaDoorPSpillNonehspillput2
import Derived.Test.YtpbhfpbfmpocdaaDoorPSpillNonehuses
namespace Go.Proofs.YtpbhfpbfmpocdaaDoor.PSpillNone
open Go.RowKit Go.Proofs.YtpbhfpbfmpocdaaDoorW.PrintWords Go.Proofs.YtpbhfpbfmpocdaaDoorW.PrintLast Go.Proofs.YtpbhfpbfmpocdaaDoorW.PrintMore
set_option linter.unusedVariables false
set_option linter.unusedSimpArgs false
/-! What a checked code's instructions read and write has its place. -/
theorem one_to {x : S48} {size regs locks : Int} (h : oneB x size regs locks = true) : 0 ≤ x.f6 ∧ x.f6 < size := by
  unfold oneB at h
  simp only [Bool.and_eq_true, decide_eq_true_eq] at h
  exact h.2.2.2.2.2.2.2.2.2.2
theorem one_b {x : S48} {size regs locks : Int} (h : oneB x size regs locks = true) (hb : fB x.f0 = true) : 0 ≤ x.f4 := by
  unfold oneB at h
  simp only [Bool.and_eq_true, decide_eq_true_eq] at h
  have := h.2.2.2.1
  rw [hb] at this
  unfold regB at this
  simp at this
  exact this.1
theorem idx_of {c : List S48} {l : List S57} (hlr : ∀ r ∈ regsL c, ∃ p ∈ l, p.f0 = r) {r : Int} (hr : r ∈ regsL c) : 0 ≤ findIdx (mOf l) r := by
  obtain ⟨p, hp, he⟩ := hlr r hr
  exact idx_has ⟨⟨p.f0, p.f1⟩, List.mem_map.2 ⟨p, hp, rfl⟩, he⟩
theorem code_facts {c : List S48} {l : List S57} {regs locks : Int} (h3 : ∀ x ∈ c, oneB x c.length regs locks = true) (hlr : ∀ r ∈ regsL c, ∃ p ∈ l, p.f0 = r) :
    ∀ x ∈ c, (rdA x.f0 = true → 0 ≤ x.f3 → 0 ≤ findIdx (mOf l) x.f3) ∧ (rdB x.f0 = true → 0 ≤ x.f4 ∧ 0 ≤ findIdx (mOf l) x.f4) ∧ (0 ≤ defL x → 0 ≤ findIdx (mOf l) (defL x)) := by
  intro x hx
  obtain ⟨_, hum, _⟩ := usesL_spec x
  have hreg : ∀ r, r ∈ usesL x → r ∈ regsL c := fun r hr => ((regsL_spec c).2 r).2 ⟨x, hx, .inl hr⟩
  refine ⟨fun hA h0 => ?_, fun hB => ?_, fun hD => ?_⟩
  · refine idx_of hlr (hreg _ ((hum _).2 ⟨h0, .inr (.inl ⟨?_, rfl⟩)⟩))
    unfold rdA at hA
    unfold fA
    simp only [Bool.or_eq_true, beq_iff_eq] at hA ⊢
    omega
  · have hfB : fB x.f0 = true := by
      unfold rdB at hB
      unfold fB
      simp only [Bool.or_eq_true, beq_iff_eq] at hB ⊢
      omega
    have h0 := one_b (h3 x hx) hfB
    exact ⟨h0, idx_of hlr (hreg _ ((hum _).2 ⟨h0, .inr (.inr ⟨hfB, rfl⟩)⟩))⟩
  · exact idx_of hlr (((regsL_spec c).2 _).2 ⟨x, hx, .inr ⟨rfl, hD⟩⟩)
end Go.Proofs.YtpbhfpbfmpocdaaDoor.PSpillNone
