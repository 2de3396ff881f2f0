-- HAND strings.Join rounds=0 making=1
import Derived.Test.YtggfikekggcclaaDoorPInsTellsx0
import Derived.Test.YtggfikekggcclaaDoorShelf
namespace Go.Proofs.YtggfikekggcclaaDoor.PInsTells
open Go.RowKit Go.Proofs.YtggfikekggcclaaDoorW.PrintWords Go.Proofs.YtggfikekggcclaaDoorW.PrintLast Go.Proofs.YtggfikekggcclaaDoorW.PrintMore
set_option linter.unusedVariables false
set_option linter.unusedSimpArgs false
open Go.Shelf
/-! strings.Join at this translation. -/
def joinB (l : List ByteArray) (sep : ByteArray) : ByteArray := ⟨(Lib.join (l.map (·.data.toList)) sep.data.toList).toArray⟩
def strings_Join.f (l0 : List ByteArray) (s1 : ByteArray) : Option ByteArray := if l0.length ≤ 140737488355328 ∧ (Lib.join (l0.map (·.data.toList)) s1.data.toList).length ≤ 140737488355328 then some (joinB l0 s1) else none
theorem strings_Join.calls (A0 : Option Addr) (c0 : Nat) (l0 : List ByteArray) (s1 : ByteArray) (r : ByteArray) (w : World) (hr0 : Kd.C Kd.string w A0 l0.length l0) (hc0 : l0.length ≤ c0) (h : strings_Join.f l0 s1 = some r) :
    Calls Tryd.prog 31 #[.slice A0 l0.length c0, .string s1] w fun e w' => e = .returned (.string r) ∧ Below w.heap.size w w' := by
  unfold strings_Join.f at h
  by_cases hh : l0.length ≤ 140737488355328 ∧ (Lib.join (l0.map (·.data.toList)) s1.data.toList).length ≤ 140737488355328
  · rw [if_pos hh] at h
    replace h := Option.some.inj h
    subst h
    by_cases hl : l0 = []
    · subst hl
      refine (Tryd.strings_Join_none A0 c0 s1 w).mono ?_
      rintro e w' ⟨rfl, rfl⟩
      exact ⟨rfl, Below.refl _ _⟩
    · have hpos : 0 < l0.length := List.length_pos_iff.2 hl
      obtain ⟨ad, rfl, hcell⟩ := hr0.2.2 hpos
      have hcells : ∀ (j : Nat) (x : ByteArray), l0[j]? = some x → w.cell? (ad.add j) = some (.string x) := fun j x hj => by
        obtain ⟨c, hc1, hc2, hc3⟩ := hcell j x hj
        have := hc3 0 (.string x) (by rw [hc2]; rfl)
        rw [Nat.add_zero, show Kd.string.sz = 1 from rfl, Nat.mul_one] at this
        exact this
      obtain ⟨b, o, sp⟩ := ad
      obtain ⟨x0, hx0⟩ : ∃ x0, l0[0]? = some x0 := ⟨_, List.getElem?_eq_getElem hpos⟩
      have hc00 : w.cell? ⟨b, o, sp⟩ = some (.string x0) := hcells 0 x0 hx0
      have hsp : sp = none := by
        cases sp with
        | none => rfl
        | some s => exact absurd hc00 (by unfold World.cell?; split <;> simp)
      subst hsp
      exact Tryd.strings_Join b o c0 l0 s1 w (fun j x hj => by
        have := hcells j x hj
        unfold Addr.add at this
        by_cases hj0 : j = 0
        · subst hj0; simpa using this
        · rw [if_neg hj0] at this; exact this) (World.block_lt_of_cell? w _ hc00) hh.1 hc0 hh.2
  · rw [if_neg hh] at h
    exact absurd h (by simp)
end Go.Proofs.YtggfikekggcclaaDoor.PInsTells
