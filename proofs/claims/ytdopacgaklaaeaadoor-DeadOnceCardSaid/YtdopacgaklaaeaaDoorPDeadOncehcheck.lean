import Derived.Test.YtdopacgaklaaeaaDoorPDeadOncex0
import Derived.Test.YtdopacgaklaaeaaDoorPDeadOncex6
import Derived.Test.YtdopacgaklaaeaaDoorPDeadOncex7
import Derived.Test.YtdopacgaklaaeaaDoorPDeadOncehbytes
import Derived.Test.YtdopacgaklaaeaaDoorPDeadOncehone11
import Derived.Test.YtdopacgaklaaeaaDoorPDeadOncehplain0
import Derived.Test.YtdopacgaklaaeaaDoorPDeadOncehref11
namespace Go.Proofs.YtdopacgaklaaeaaDoor.PDeadOnce
open Go.RowKit Go.Proofs.YtdopacgaklaaeaaDoorW.PrintWords Go.Proofs.YtdopacgaklaaeaaDoorW.PrintLast Go.Proofs.YtdopacgaklaaeaaDoorW.PrintMore
set_option linter.unusedVariables false
set_option linter.unusedSimpArgs false
/-! palingref11.Check, in plain words. -/
def regB (a0 a1 : Int) (a2 a3 : Bool) : Bool := if a2 = true then (decide (a0 ≥ 0) && decide (a0 < a1) || (a3 && a0 == -1)) else a0 == 0
theorem reg_spec (a0 a1 : Int) (a2 a3 : Bool) : palingref11_reg.f a0 a1 a2 a3 = some (regB a0 a1 a2 a3) := by
  unfold palingref11_reg.f regB
  by_cases h0 : a0 ≥ 0 <;> by_cases h1 : a0 < a1 <;> cases a2 <;> cases a3 <;> simp [h0, h1]
  all_goals omega
def numB (kind n locks : Int) : Bool := if kind = 4 ∨ kind = 5 then decide (n ≥ 0) && decide (n ≤ 65535) else if kind = 9 ∨ kind = 10 then decide (n ≥ 0) && decide (n < locks) else if kind = 12 then n == 1 || n == 2 else true
theorem number_spec (a0 a1 a2 a3 a4 a5 a6 x : Int) : ∀ k, 2 ≤ k → palingref11_number.f k a0 a1 a2 a3 a4 a5 a6 x = some (numB a0 a5 x) := by
  intro k hk
  obtain ⟨k, rfl⟩ : ∃ m, k = m + 2 := ⟨k - 2, by omega⟩
  simp only [palingref11_number.f, palingref11_number.j0, palingref11_number.j1, numB]
  by_cases h4 : a0 = 4
  · subst h4; by_cases h : a5 ≥ 0 <;> simp [h]
  · by_cases h5 : a0 = 5
    · subst h5; by_cases h : a5 ≥ 0 <;> simp [h]
    · by_cases h9 : a0 = 9
      · subst h9; by_cases h : a5 ≥ 0 <;> simp [h]
      · by_cases h10 : a0 = 10
        · subst h10; by_cases h : a5 ≥ 0 <;> simp [h]
        · by_cases h12 : a0 = 12
          · subst h12; by_cases h : a5 = 1 <;> simp [h]
          · simp [h4, h5, h9, h10, h12]
def oneB (x : S28) (size regs locks : Int) : Bool :=
  decide (0 ≤ x.f0 ∧ x.f0 < 14) && (regB x.f2 regs (fD x.f0) false && (regB x.f3 regs (fA x.f0) (x.f0 == 4 || x.f0 == 5) && (regB x.f4 regs (fB x.f0) false &&
    ((fO x.f0 || x.f1 == 0) && (decide (0 ≤ x.f1) && (decide (x.f1 ≤ 18) && ((fN x.f0 || x.f5 == 0) && ((fT x.f0 || x.f6 == 0) && (numB x.f0 x.f5 locks && (decide (0 ≤ x.f6) && decide (x.f6 < size)))))))))))
set_option maxHeartbeats 4000000 in
theorem one_spec (x : S28) (size regs locks : Int) : Ev (fun k => palingref11_one.f k x.f0 x.f1 x.f2 x.f3 x.f4 x.f5 x.f6 size regs locks) (oneB x size regs locks) := by
  obtain ⟨e1, e2, e3, e4, e5, e6, e7⟩ := fld_has x.f0
  have hsz : (fldB x.f0).size ≤ 4611686018427387904 := by have := fld_size x.f0; omega
  obtain ⟨k1, g1⟩ := has_spec (fldB x.f0) 68 hsz
  obtain ⟨k2, g2⟩ := has_spec (fldB x.f0) 65 hsz
  obtain ⟨k3, g3⟩ := has_spec (fldB x.f0) 66 hsz
  obtain ⟨k4, g4⟩ := has_spec (fldB x.f0) 79 hsz
  obtain ⟨k5, g5⟩ := has_spec (fldB x.f0) 78 hsz
  obtain ⟨k6, g6⟩ := has_spec (fldB x.f0) 84 hsz
  rw [e1] at g1; rw [e2] at g2; rw [e3] at g3; rw [e4] at g4; rw [e5] at g5; rw [e6] at g6
  refine ⟨k1 + k2 + k3 + k4 + k5 + k6 + 5, fun k hk => ?_⟩
  have q1 := g1 k (by omega)
  have q2 := g2 k (by omega)
  have q3 := g3 k (by omega)
  have q4 := g4 k (by omega)
  have q5 := g5 k (by omega)
  have q6 := g6 k (by omega)
  have q7 := number_spec x.f0 x.f1 x.f2 x.f3 x.f4 x.f5 x.f6 locks k (by omega)
  simp only [palingref11_one.f, fields_spec, Option.bind_some, q1, q2, q3, q4, q5, q6, q7, reg_spec]
  refine congrArg some ?_
  have he : ((fldB x.f0).toList == ([] : List UInt8)) = !decide (0 ≤ x.f0 ∧ x.f0 < 14) := by
    by_cases hk : 0 ≤ x.f0 ∧ x.f0 < 14
    · have hne : ¬ ((fldB x.f0).toList = []) := by rw [toList_data, e7]; simpa using hk
      rw [beq_eq_false_iff_ne.mpr hne, decide_eq_true hk]; rfl
    · have he : (fldB x.f0).toList = [] := by rw [toList_data, e7]; exact hk
      rw [beq_iff_eq.mpr he, decide_eq_false hk]; rfl
  have d1 : ∀ z : Int, decide (18 < z) = !decide (z ≤ 18) := fun z => by by_cases h : z ≤ 18 <;> simp [h]; omega
  have d2 : ∀ z : Int, decide (z < 0) = !decide (0 ≤ z) := fun z => by by_cases h : 0 ≤ z <;> simp [h]; omega
  simp only [oneV, oneB, he, bne, d1, d2, Bool.not_or, Bool.not_and, Bool.not_not, Bool.and_assoc]
def endsB (l : List S28) : Bool := (rd_T28 l ((l.length : Int) - 1)).f0 == 6 || ((rd_T28 l ((l.length : Int) - 1)).f0 == 12 || (rd_T28 l ((l.length : Int) - 1)).f0 == 13)
def checkB (l : List S28) (regs locks : Int) : Bool := decide (1 ≤ l.length) && (decide (l.length ≤ 4096) && (l.all (fun x => oneB x l.length regs locks) && endsB l))
theorem check_spec (l : List S28) (regs locks : Int) : Ev (fun k => palingref11_Check.f k l regs locks) (checkB l regs locks) := by
  by_cases h1 : (l.length : Int) < 1
  · refine Ev.congr (fun k => rfl) (Ev.pos h1 (Ev.step (f := fun _ => some false) (fun k => rfl) (Ev.con ?_)))
    have : ¬ 1 ≤ l.length := by omega
    simp [checkB, this]
  · refine Ev.congr (fun k => rfl) (Ev.neg h1 (Ev.step (fun k => rfl) ?_))
    by_cases h2 : (l.length : Int) > 4096
    · refine Ev.pos (decide_eq_true h2) (Ev.con ?_)
      have : ¬ l.length ≤ 4096 := by omega
      simp [checkB, this]
    · refine Ev.neg (by simpa using h2) ?_
      have key : ∀ i : Int, 0 ≤ i → i ≤ l.length → Ev (fun k => palingref11_Check.l0 k l regs locks i) ((l.drop i.toNat).all (fun x => oneB x l.length regs locks) && endsB l) := by
        refine up_ind ?_ ?_
        · refine Ev.step (fun k => rfl) (Ev.neg (by omega) ?_)
          rw [wrap_in (x := (l.length : Int) - 1) (by omega) (by omega)]
          refine Ev.pos (by omega) (Ev.pos (by omega) ?_)
          rw [List.drop_eq_nil_of_le (by omega), List.all_nil, Bool.true_and]
          unfold endsB
          by_cases c1 : (rd_T28 l ((l.length : Int) - 1)).f0 = 6
          · exact Ev.pos c1 (Ev.con (by simp [c1]))
          · refine Ev.neg c1 ?_
            by_cases c2 : (rd_T28 l ((l.length : Int) - 1)).f0 = 12
            · exact Ev.pos c2 (Ev.con (by simp [c2]))
            · exact Ev.neg c2 (Ev.con (by rw [show ((rd_T28 l ((l.length : Int) - 1)).f0 == 6) = false by simpa using c1, show ((rd_T28 l ((l.length : Int) - 1)).f0 == 12) = false by simpa using c2]; rfl))
        · intro i h0 hi ih
          refine Ev.step (fun k => rfl) (Ev.pos hi (Ev.pos h0 (Ev.bind (one_spec _ _ _ _) ?_)))
          rw [getD_drop l z28 i.toNat (by omega), List.all_cons, show l.getD i.toNat z28 = rd_T28 l i from rfl]
          cases hq : oneB (rd_T28 l i) l.length regs locks with
          | true =>
            refine Ev.tt ?_
            rw [wrap_up h0 hi (by omega), Bool.true_and]
            rw [show (i + 1).toNat = i.toNat + 1 by omega] at ih
            exact ih
          | false =>
            refine Ev.ff (Ev.con ?_)
            simp
      have h3 : 1 ≤ l.length := by omega
      have h4 : l.length ≤ 4096 := by omega
      simpa [checkB, h3, h4] using key 0 (by omega) (by omega)
theorem check_facts {l : List S28} {regs locks : Int} (h : checkB l regs locks = true) : 1 ≤ l.length ∧ l.length ≤ 4096 ∧ (∀ x ∈ l, oneB x l.length regs locks = true) ∧ endsB l = true := by
  simp only [checkB, Bool.and_eq_true, decide_eq_true_eq, List.all_eq_true] at h
  exact ⟨h.1, h.2.1, h.2.2.1, h.2.2.2⟩
end Go.Proofs.YtdopacgaklaaeaaDoor.PDeadOnce
