import Derived.Test.YtdopacgaklaaeaaDoorPDeadBackx0
import Derived.Test.YtdopacgaklaaeaaDoorPDeadBackx7
import Derived.Test.YtdopacgaklaaeaaDoorPDeadBackx8
import Derived.Test.YtdopacgaklaaeaaDoorPDeadBackhg1
import Derived.Test.YtdopacgaklaaeaaDoorPDeadBackhone11
import Derived.Test.YtdopacgaklaaeaaDoorPDeadBackhplain0
import Derived.Test.YtdopacgaklaaeaaDoorPDeadBackhg7
import Derived.Test.YtdopacgaklaaeaaDoorPDeadBackhmach
import Derived.Test.YtdopacgaklaaeaaDoorPDeadBackhg6
import Derived.Test.YtdopacgaklaaeaaDoorPDeadBackhmnext
import Derived.Test.YtdopacgaklaaeaaDoorPDeadBackhmplain
import Derived.Test.YtdopacgaklaaeaaDoorPDeadBackhmpure
namespace Go.Proofs.YtdopacgaklaaeaaDoor.PDeadBack
open Go.RowKit Go.Proofs.YtdopacgaklaaeaaDoorW.PrintWords Go.Proofs.YtdopacgaklaaeaaDoorW.PrintLast Go.Proofs.YtdopacgaklaaeaaDoorW.PrintMore
set_option linter.unusedVariables false
set_option linter.unusedSimpArgs false
/-! palingref11.Check, in plain words. -/
def regB (a0 a1 : Int) (a2 a3 : Bool) : Bool := if a2 = true then (decide (a0 ≥ 0) && decide (a0 < a1) || (a3 && a0 == -1)) else a0 == 0
theorem reg_spec (a0 a1 : Int) (a2 a3 : Bool) : palingref11_reg.f a0 a1 a2 a3 = some (regB a0 a1 a2 a3) := by
  unfold palingref11_reg.f regB
  by_cases h0 : a0 ≥ 0 <;> by_cases h1 : a0 < a1 <;> cases a2 <;> cases a3 <;> simp [h0, h1]
  all_goals omega
def numB (kind n locks : Int) : Bool := if kind = 4 ∨ kind = 5 then decide (n ≥ 0) && decide (n ≤ 65535) else if kind = 9 ∨ kind = 10 then decide (n ≥ 0) && decide (n < locks) else if kind = 12 then n == 1 || n == 2 else true
theorem number_spec (a0 a1 a2 a3 a4 a5 a6 x : Int) : ∀ k, 2 ≤ k → palingref11_number.f k a0 a1 a2 a3 a4 a5 a6 x = some (numB a0 a5 x) := by
  intro k hk
  obtain ⟨k, rfl⟩ : ∃ m, k = m + 2 := ⟨k - 2, by omega⟩
  simp only [palingref11_number.f, palingref11_number.j0, palingref11_number.j1, numB]
  by_cases h4 : a0 = 4
  · subst h4; by_cases h : a5 ≥ 0 <;> simp [h]
  · by_cases h5 : a0 = 5
    · subst h5; by_cases h : a5 ≥ 0 <;> simp [h]
    · by_cases h9 : a0 = 9
      · subst h9; by_cases h : a5 ≥ 0 <;> simp [h]
      · by_cases h10 : a0 = 10
        · subst h10; by_cases h : a5 ≥ 0 <;> simp [h]
        · by_cases h12 : a0 = 12
          · subst h12; by_cases h : a5 = 1 <;> simp [h]
          · simp [h4, h5, h9, h10, h12]
def oneB (x : S28) (size regs locks : Int) : Bool :=
  decide (0 ≤ x.f0 ∧ x.f0 < 14) && (regB x.f2 regs (fD x.f0) false && (regB x.f3 regs (fA x.f0) (x.f0 == 4 || x.f0 == 5) && (regB x.f4 regs (fB x.f0) false &&
    ((fO x.f0 || x.f1 == 0) && (decide (0 ≤ x.f1) && (decide (x.f1 ≤ 18) && ((fN x.f0 || x.f5 == 0) && ((fT x.f0 || x.f6 == 0) && (numB x.f0 x.f5 locks && (decide (0 ≤ x.f6) && decide (x.f6 < size)))))))))))
set_option maxHeartbeats 4000000 in
theorem one_spec (x : S28) (size regs locks : Int) : Ev (fun k => palingref11_one.f k x.f0 x.f1 x.f2 x.f3 x.f4 x.f5 x.f6 size regs locks) (oneB x size regs locks) := by
  obtain ⟨e1, e2, e3, e4, e5, e6, e7⟩ := fld_has x.f0
  have hsz : (fldB x.f0).size ≤ 4611686018427387904 := by have := fld_size x.f0; omega
  obtain ⟨k1, g1⟩ := has_spec (fldB x.f0) 68 hsz
  obtain ⟨k2, g2⟩ := has_spec (fldB x.f0) 65 hsz
  obtain ⟨k3, g3⟩ := has_spec (fldB x.f0) 66 hsz
  obtain ⟨k4, g4⟩ := has_spec (fldB x.f0) 79 hsz
  obtain ⟨k5, g5⟩ := has_spec (fldB x.f0) 78 hsz
  obtain ⟨k6, g6⟩ := has_spec (fldB x.f0) 84 hsz
  rw [e1] at g1; rw [e2] at g2; rw [e3] at g3; rw [e4] at g4; rw [e5] at g5; rw [e6] at g6
  refine ⟨k1 + k2 + k3 + k4 + k5 + k6 + 5, fun k hk => ?_⟩
  have q1 := g1 k (by omega)
  have q2 := g2 k (by omega)
  have q3 := g3 k (by omega)
  have q4 := g4 k (by omega)
  have q5 := g5 k (by omega)
  have q6 := g6 k (by omega)
  have q7 := number_spec x.f0 x.f1 x.f2 x.f3 x.f4 x.f5 x.f6 locks k (by omega)
  simp only [palingref11_one.f, fields_spec, Option.bind_some, q1, q2, q3, q4, q5, q6, q7, reg_spec]
  refine congrArg some ?_
  have he : ((fldB x.f0).toList == ([] : List UInt8)) = !decide (0 ≤ x.f0 ∧ x.f0 < 14) := by
    by_cases hk : 0 ≤ x.f0 ∧ x.f0 < 14
    · have hne : ¬ ((fldB x.f0).toList = []) := by rw [toList_data, e7]; simpa using hk
      rw [beq_eq_false_iff_ne.mpr hne, decide_eq_true hk]; rfl
    · have he : (fldB x.f0).toList = [] := by rw [toList_data, e7]; exact hk
      rw [beq_iff_eq.mpr he, decide_eq_false hk]; rfl
  have d1 : ∀ z : Int, decide (18 < z) = !decide (z ≤ 18) := fun z => by by_cases h : z ≤ 18 <;> simp [h]; omega
  have d2 : ∀ z : Int, decide (z < 0) = !decide (0 ≤ z) := fun z => by by_cases h : 0 ≤ z <;> simp [h]; omega
  simp only [oneV, oneB, he, bne, d1, d2, Bool.not_or, Bool.not_and, Bool.not_not, Bool.and_assoc]
def endsB (l : List S28) : Bool := (rd_T28 l ((l.length : Int) - 1)).f0 == 6 || ((rd_T28 l ((l.length : Int) - 1)).f0 == 12 || (rd_T28 l ((l.length : Int) - 1)).f0 == 13)
def checkB (l : List S28) (regs locks : Int) : Bool := decide (1 ≤ l.length) && (decide (l.length ≤ 4096) && (l.all (fun x => oneB x l.length regs locks) && endsB l))
theorem check_spec (l : List S28) (regs locks : Int) : Ev (fun k => palingref11_Check.f k l regs locks) (checkB l regs locks) := by
  by_cases h1 : (l.length : Int) < 1
  · refine Ev.congr (fun k => rfl) (Ev.pos h1 (Ev.step (f := fun _ => some false) (fun k => rfl) (Ev.con ?_)))
    have : ¬ 1 ≤ l.length := by omega
    simp [checkB, this]
  · refine Ev.congr (fun k => rfl) (Ev.neg h1 (Ev.step (fun k => rfl) ?_))
    by_cases h2 : (l.length : Int) > 4096
    · refine Ev.pos (decide_eq_true h2) (Ev.con ?_)
      have : ¬ l.length ≤ 4096 := by omega
      simp [checkB, this]
    · refine Ev.neg (by simpa using h2) ?_
      have key : ∀ i : Int, 0 ≤ i → i ≤ l.length → Ev (fun k => palingref11_Check.l0 k l regs locks i) ((l.drop i.toNat).all (fun x => oneB x l.length regs locks) && endsB l) := by
        refine up_ind ?_ ?_
        · refine Ev.step (fun k => rfl) (Ev.neg (by omega) ?_)
          rw [wrap_in (x := (l.length : Int) - 1) (by omega) (by omega)]
          refine Ev.pos (by omega) (Ev.pos (by omega) ?_)
          rw [List.drop_eq_nil_of_le (by omega), List.all_nil, Bool.true_and]
          unfold endsB
          by_cases c1 : (rd_T28 l ((l.length : Int) - 1)).f0 = 6
          · exact Ev.pos c1 (Ev.con (by simp [c1]))
          · refine Ev.neg c1 ?_
            by_cases c2 : (rd_T28 l ((l.length : Int) - 1)).f0 = 12
            · exact Ev.pos c2 (Ev.con (by simp [c2]))
            · exact Ev.neg c2 (Ev.con (by rw [show ((rd_T28 l ((l.length : Int) - 1)).f0 == 6) = false by simpa using c1, show ((rd_T28 l ((l.length : Int) - 1)).f0 == 12) = false by simpa using c2]; rfl))
        · intro i h0 hi ih
          refine Ev.step (fun k => rfl) (Ev.pos hi (Ev.pos h0 (Ev.bind (one_spec _ _ _ _) ?_)))
          rw [getD_drop l z28 i.toNat (by omega), List.all_cons, show l.getD i.toNat z28 = rd_T28 l i from rfl]
          cases hq : oneB (rd_T28 l i) l.length regs locks with
          | true =>
            refine Ev.tt ?_
            rw [wrap_up h0 hi (by omega), Bool.true_and]
            rw [show (i + 1).toNat = i.toNat + 1 by omega] at ih
            exact ih
          | false =>
            refine Ev.ff (Ev.con ?_)
            simp
      have h3 : 1 ≤ l.length := by omega
      have h4 : l.length ≤ 4096 := by omega
      simpa [checkB, h3, h4] using key 0 (by omega) (by omega)
theorem check_facts {l : List S28} {regs locks : Int} (h : checkB l regs locks = true) : 1 ≤ l.length ∧ l.length ≤ 4096 ∧ (∀ x ∈ l, oneB x l.length regs locks = true) ∧ endsB l = true := by
  simp only [checkB, Bool.and_eq_true, decide_eq_true_eq, List.all_eq_true] at h
  exact ⟨h.1, h.2.1, h.2.2.1, h.2.2.2⟩
end Go.Proofs.YtdopacgaklaaeaaDoor.PDeadBack

namespace Go.Proofs.YtdopacgaklaaeaaDoor.PDeadBack
open Go.RowKit Go.Proofs.YtdopacgaklaaeaaDoorW.PrintWords Go.Proofs.YtdopacgaklaaeaaDoorW.PrintLast Go.Proofs.YtdopacgaklaaeaaDoorW.PrintMore
set_option linter.unusedVariables false
set_option linter.unusedSimpArgs false
/-! Two of the document's machines beside each other. -/
theorem eqEvent (d : Nat) (w : World) (x0 y0 x1 y1 x2 y2 : Int) : (Op.equalIn (d + 2) 42 (.agg #[.int .i64 x0, .int .i64 x1, .int .i64 x2]) (.agg #[.int .i64 y0, .int .i64 y1, .int .i64 y2])).run Tryd.prog w = .ok (x0 == y0 && (x1 == y1 && x2 == y2)) w := by
  refine eqA_of Tryd.underlying42 (by kernel_rfl) ?_
  refine eqf_cons (by rfl) (by go_simp; rfl) (by go_simp; rfl) (by go_simp) ?_
  refine eqf_cons (by rfl) (by go_simp; rfl) (by go_simp; rfl) (by go_simp) ?_
  exact eqf_last (by rfl) (by go_simp; rfl) (by go_simp; rfl) (by go_simp)
theorem runS_len (c : List S28) : ∀ (f : Nat) (s : MSt), (runS c f s).1.regs.length ≤ s.regs.length + f ∧ (runS c f s).1.own.length ≤ s.own.length + 1 ∧ (runS c f s).1.mem.length = s.mem.length
  | 0, s => ⟨Nat.le_refl _, Nat.le_succ _, rfl⟩
  | f + 1, s => by
    rw [show runS c (f + 1) s = if (fetchS c s).f0 = 11 then ({ s with pc := wrap64 (s.pc + 1) }, (0, getG s.regs (fetchS c s).f3), 0)
    else if (fetchS c s).f0 = 9 ∨ (fetchS c s).f0 = 10 then lockS (fetchS c s) s
    else if (fetchS c s).f0 = 12 then ({ s with over := true }, (3, (fetchS c s).f5), 0)
    else if (fetchS c s).f0 = 13 then ({ s with over := true }, (4, 0), 0)
    else runS c f (plainS (fetchS c s) s) from rfl]
    split
    · exact ⟨Nat.le_add_right _ _, Nat.le_succ _, rfl⟩
    split
    · unfold lockS
      split
      · exact ⟨Nat.le_add_right _ _, Nat.le_succ _, rfl⟩
      · refine ⟨Nat.le_add_right _ _, ?_, rfl⟩
        have := List.length_filter_le (fun y : S93 => !(y.f0 == (fetchS c s).f5)) s.own
        show (List.filter _ _ ++ _).length ≤ _
        rw [List.length_append]
        split <;> simp <;> omega
    split
    · exact ⟨Nat.le_add_right _ _, Nat.le_succ _, rfl⟩
    split
    · exact ⟨Nat.le_add_right _ _, Nat.le_succ _, rfl⟩
    · have ih := runS_len c f (plainS (fetchS c s) s)
      have hp := plainS_len (fetchS c s) s
      rw [plainS_own] at ih
      omega
theorem nextS_len (c : List S28) (f : Nat) (s : MSt) : (nextS c f s).1.regs.length ≤ s.regs.length + f ∧ (nextS c f s).1.own.length ≤ s.own.length + 1 ∧ (nextS c f s).1.mem.length = s.mem.length := by
  unfold nextS
  split
  · exact ⟨Nat.le_add_right _ _, Nat.le_succ _, rfl⟩
  · exact runS_len c f s
/-- a machine, and the blocks that are its own -/
def MS (W w0 : World) (F : Nat → Prop) (b gC gT : Nat) (A0 : Option Addr) (n0 c0 : Nat) (vM : Value) (s : MSt) : Prop := ∃ vO vG, MO W w0.heap.size F b gC gT A0 n0 c0 vM vO s.mem s.own ∧ MT W w0.heap.size F gT vG s.regs s.pc s.over ∧ ∀ k, F k → k < W.heap.size
section
variable {W W' w0 : World} {F F' : Nat → Prop} {b gC gT : Nat} {A0 : Option Addr} {n0 c0 : Nat} {vM : Value} {s : MSt}
theorem MS.below (h : MS W w0 F b gC gT A0 n0 c0 vM s) (hb : Below W.heap.size W W') : MS W' w0 F b gC gT A0 n0 c0 vM s := by
  obtain ⟨vO, vG, h1, h2, h3⟩ := h
  exact ⟨vO, vG, h1.below hb, h2.below hb, fun k hk => Nat.lt_of_lt_of_le (h3 k hk) hb.size⟩
theorem MS.other (h : MS W w0 F b gC gT A0 n0 c0 vM s) (hk : Kept W W' F') (hd : ∀ k, F k → ¬ F' k) : MS W' w0 F b gC gT A0 n0 c0 vM s := by
  obtain ⟨vO, vG, h1, h2, h3⟩ := h
  have hm : ∀ k, F k → k < W.heap.size → W'.heap[k]? = W.heap[k]? := fun k h h' => hk.2 k h' (hd k h)
  exact ⟨vO, vG, h1.move hm, h2.move h1.fb.2.2 hm, fun k hk' => Nat.lt_of_lt_of_le (h3 k hk') hk.1⟩
theorem MS.tight (hO : ∃ vO vG, MO W w0.heap.size F b gC gT A0 n0 c0 vM vO s.mem s.own ∧ MT W w0.heap.size F gT vG s.regs s.pc s.over) : MS W w0 (fun k => F k ∧ k < W.heap.size) b gC gT A0 n0 c0 vM s := by
  obtain ⟨vO, vG, h1, h2⟩ := hO
  exact ⟨vO, vG, h1.tight (blk_lt h2.hT), h2.tight, fun k hk => hk.2⟩
theorem MS.mem (h : MS W w0 F b gC gT A0 n0 c0 vM s) : W.heap[b]? = W.heap[b]? ∧ W.cell? ⟨b, 1, none⟩ = some vM ∧ Kd.R (Kd.int .i64) 2 W w0.heap.size F vM s.mem := by
  obtain ⟨vO, vG, h1, h2, h3⟩ := h
  exact ⟨rfl, (blk_cell h1.hb 1).trans rfl, h1.rM⟩
end
/-- a new one -/
theorem ms_new (w0 W : World) (gC : Nat) (A0 : Option Addr) (n0 c0 : Nat) (A1 : Option Addr) (c1 : Nat) (mem : List Int) (hC : W.heap[gC]? = some (.cells #[.slice A0 n0 c0] 32 (0, 0))) (hg : w0.heap.size ≤ gC)
    (hm : Kd.C (Kd.int .i64) W A1 mem.length mem) (hc1 : mem.length ≤ c1) (hB : Below w0.heap.size w0 W) (hl : mem.length ≤ 1000000) :
    Calls Tryd.prog 19 #[.slice (some ⟨gC, 0, none⟩) 1 1, .slice A1 mem.length c1] W fun e W' => ∃ (b gT : Nat) (vM : Value) (F : Nat → Prop), e = .returned (.pointer (some ⟨b, 0, none⟩)) ∧ Aside0 (MS W' w0 F b gC gT A0 n0 c0 vM ⟨mem, [], [], 0, false⟩) ∧ Aside0 (∀ k, F k → k = gC ∨ W.heap.size ≤ k) ∧ Aside0 (Below W.heap.size W W') := by
  refine (mnew.calls w0 W gC A0 n0 c0 A1 c1 mem hC hg hm hc1 hB hl).mono ?_
  rintro e W' ⟨b, gT, vM, he, h1, h2, h3⟩
  exact ⟨b, gT, vM, _, he, ⟨MS.tight (s := ⟨mem, [], [], 0, false⟩) ⟨_, _, h1, h2⟩⟩, ⟨fun k hk => hk.1⟩, ⟨h3⟩⟩
/-- its turn -/
theorem ms_next (c : List S28) (f : Nat) (fI : Int) (w0 W : World) (F : Nat → Prop) (b gC gT : Nat) (A0 : Option Addr) (c0 : Nat) (vM : Value) (s : MSt) (N : MSt × (Int × Int) × Int) (hc : Kd.C k28 w0 A0 c.length c) (hc0 : c.length ≤ c0)
    (hM : MS W w0 F b gC gT A0 c.length c0 vM s) (hB : Below w0.heap.size w0 W) (hl : s.regs.length + f ≤ 800000) (ho : s.own.length ≤ 800000) (hm : s.mem.length ≤ 1000000) (hf : f ≤ 800000) (hfI : fI = (f : Int)) (hN : N = nextS c f s) :
    Calls Tryd.prog 20 #[.pointer (some ⟨b, 0, none⟩), .int .i64 0, .int .i64 fI] W fun e W' => e = .returned (.tuple #[.agg #[.int .i64 N.2.1.1, .int .i64 0, .int .i64 N.2.1.2], .int .i64 N.2.2]) ∧
      ∃ F', Aside0 (MS W' w0 F' b gC gT A0 c.length c0 vM N.1) ∧ Aside0 (∀ k, F' k → F k ∨ W.heap.size ≤ k) ∧ Aside0 (Below w0.heap.size w0 W') ∧ Aside0 (Kept W W' F) := by
  subst hfI
  subst hN
  obtain ⟨vO, vG, h1, h2, h3⟩ := hM
  refine (mnext.calls c f w0 W F b gC gT A0 c0 vM vO vG s hc hc0 h1 h2 hB hl ho hm hf).mono ?_
  rintro e W' ⟨he, vO', vG', k1, k2, k3, k4⟩
  exact ⟨he, _, ⟨MS.tight ⟨vO', vG', k1, k2⟩⟩, ⟨fun k hk => hk.1⟩, ⟨k3⟩, ⟨k4⟩⟩
end Go.Proofs.YtdopacgaklaaeaaDoor.PDeadBack
