import Derived.Test.YtdopacgaklaaeaaDoorPDeadTellsx0
import Derived.Test.YtdopacgaklaaeaaDoorPDeadTellsx7
import Derived.Test.YtdopacgaklaaeaaDoorPDeadTellshplain0
import Derived.Test.YtdopacgaklaaeaaDoorPDeadTellsx8
import Derived.Test.YtdopacgaklaaeaaDoorPDeadTellshsml
import Derived.Test.YtdopacgaklaaeaaDoorPDeadTellshone11
import Derived.Test.YtdopacgaklaaeaaDoorPDeadTellsx10
import Derived.Test.YtdopacgaklaaeaaDoorPDeadTellsx11
namespace Go.Proofs.YtdopacgaklaaeaaDoor.PDeadTells
open Go.RowKit Go.Proofs.YtdopacgaklaaeaaDoorW.PrintWords Go.Proofs.YtdopacgaklaaeaaDoorW.PrintLast Go.Proofs.YtdopacgaklaaeaaDoorW.PrintMore
set_option linter.unusedVariables false
set_option linter.unusedSimpArgs false
/-! The reference's instructions (palingref11), in plain words. -/
def hasC (s : ByteArray) (c : Int) : Bool := s.data.toList.any (fun b => ((b.toNat : Nat) : Int) == c)
theorem bt_get (s : ByteArray) (i : Int) (h0 : 0 ≤ i) (h1 : i < s.size) : s.data.toList.drop i.toNat = (s.data.toList.getD i.toNat 0) :: s.data.toList.drop (i.toNat + 1) ∧ bt s i = ((s.data.toList.getD i.toNat 0).toNat : Nat) := by
  have hl : i.toNat < s.data.toList.length := by rw [Array.length_toList]; show i.toNat < s.size; omega
  refine ⟨getD_drop _ 0 _ hl, ?_⟩
  have hs : i.toNat < s.size := by omega
  unfold bt
  rw [dif_pos hs]
  congr 2
  rw [List.getD_eq_getElem?_getD, List.getElem?_eq_getElem hl]
  rfl
theorem has_spec (s : ByteArray) (c : Int) (hs : s.size ≤ 4611686018427387904) : Ev (fun k => palingref11_Has.f k s c) (hasC s c) := by
  have key : ∀ i : Int, 0 ≤ i → i ≤ s.size → Ev (fun k => palingref11_Has.l0 k s c i) ((s.data.toList.drop i.toNat).any (fun b => ((b.toNat : Nat) : Int) == c)) := by
    refine up_ind ?_ ?_
    · refine Ev.step (fun k => rfl) (Ev.neg (by omega) (Ev.con ?_))
      rw [List.drop_eq_nil_of_le (by rw [Array.length_toList]; show s.size ≤ _; omega)]
      rfl
    · intro i h0 h1 ih
      obtain ⟨hd, hb⟩ := bt_get s i h0 h1
      refine Ev.step (fun k => rfl) (Ev.pos h1 (Ev.pos h0 ?_))
      rw [hd, List.any_cons]
      by_cases hq : bt s i = c
      · refine Ev.pos hq (Ev.con ?_)
        rw [← hb, hq]; simp
      · refine Ev.neg hq ?_
        rw [wrap_up h0 h1 hs]
        rw [show (i + 1).toNat = i.toNat + 1 by omega] at ih
        rw [← hb, show (bt s i == c) = false by simpa using hq, Bool.false_or]
        exact ih
  simpa [hasC, palingref11_Has.f] using key 0 (by omega) (by omega)
def fldB (a0 : Int) : ByteArray := if 0 ≤ a0 ∧ a0 < 14 then rdOf ByteArray.empty ([(⟨#[68, 78]⟩ : ByteArray), (⟨#[68, 65]⟩ : ByteArray), (⟨#[68, 79, 65, 66]⟩ : ByteArray), (⟨#[68, 65, 66]⟩ : ByteArray), (⟨#[68, 65, 78]⟩ : ByteArray), (⟨#[65, 66, 78]⟩ : ByteArray), (⟨#[84]⟩ : ByteArray), (⟨#[65, 84]⟩ : ByteArray), (⟨#[46]⟩ : ByteArray), (⟨#[78]⟩ : ByteArray), (⟨#[78]⟩ : ByteArray), (⟨#[65]⟩ : ByteArray), (⟨#[78]⟩ : ByteArray), (⟨#[46]⟩ : ByteArray)] : List ByteArray) a0 else ⟨#[]⟩
theorem fields_spec (a0 : Int) : palingref11_fields.f a0 = some (fldB a0) := by
  unfold palingref11_fields.f fldB
  simp only [Option.bind_some, List.length_cons, List.length_nil]
  by_cases h0 : a0 < 0
  · rw [if_pos h0, if_neg (by omega)]
  · by_cases h1 : a0 ≥ 14
    · rw [if_neg h0, if_pos (by simpa using h1), if_neg (by omega)]
    · rw [if_neg h0, if_neg (by simpa using h1), if_pos (by omega), if_pos (by omega), if_pos (by omega)]
theorem kind_cases {P : Int → Prop} (a0 : Int) (h : 0 ≤ a0 ∧ a0 < 14) (h0 : P 0) (h1 : P 1) (h2 : P 2) (h3 : P 3) (h4 : P 4) (h5 : P 5) (h6 : P 6) (h7 : P 7) (h8 : P 8) (h9 : P 9) (h10 : P 10) (h11 : P 11) (h12 : P 12) (h13 : P 13) : P a0 := by
  have : a0 = 0 ∨ a0 = 1 ∨ a0 = 2 ∨ a0 = 3 ∨ a0 = 4 ∨ a0 = 5 ∨ a0 = 6 ∨ a0 = 7 ∨ a0 = 8 ∨ a0 = 9 ∨ a0 = 10 ∨ a0 = 11 ∨ a0 = 12 ∨ a0 = 13 := by omega
  rcases this with rfl | rfl | rfl | rfl | rfl | rfl | rfl | rfl | rfl | rfl | rfl | rfl | rfl | rfl <;> assumption
/-- which fields are an instruction's own: D, A, B, Op, N, To -/
def fD (k : Int) : Bool := k == 0 || k == 1 || k == 2 || k == 3 || k == 4
def fA (k : Int) : Bool := k == 1 || k == 2 || k == 3 || k == 4 || k == 5 || k == 7 || k == 11
def fB (k : Int) : Bool := k == 2 || k == 3 || k == 5
def fO (k : Int) : Bool := k == 2
def fN (k : Int) : Bool := k == 0 || k == 4 || k == 5 || k == 9 || k == 10 || k == 12
def fT (k : Int) : Bool := k == 6 || k == 7
theorem fld_size (a0 : Int) : (fldB a0).size ≤ 4 := by
  by_cases h : 0 ≤ a0 ∧ a0 < 14
  · exact kind_cases (P := fun a => (fldB a).size ≤ 4) a0 h (by decide) (by decide) (by decide) (by decide) (by decide) (by decide) (by decide) (by decide) (by decide) (by decide) (by decide) (by decide) (by decide) (by decide)
  · unfold fldB; rw [if_neg h]; decide
theorem fld_has (a0 : Int) : hasC (fldB a0) 68 = fD a0 ∧ hasC (fldB a0) 65 = fA a0 ∧ hasC (fldB a0) 66 = fB a0 ∧ hasC (fldB a0) 79 = fO a0 ∧ hasC (fldB a0) 78 = fN a0 ∧ hasC (fldB a0) 84 = fT a0 ∧ ((fldB a0).data.toList = [] ↔ ¬ (0 ≤ a0 ∧ a0 < 14)) := by
  by_cases h : 0 ≤ a0 ∧ a0 < 14
  · exact kind_cases (P := fun a0 => hasC (fldB a0) 68 = fD a0 ∧ hasC (fldB a0) 65 = fA a0 ∧ hasC (fldB a0) 66 = fB a0 ∧ hasC (fldB a0) 79 = fO a0 ∧ hasC (fldB a0) 78 = fN a0 ∧ hasC (fldB a0) 84 = fT a0 ∧ ((fldB a0).data.toList = [] ↔ ¬ (0 ≤ a0 ∧ a0 < 14))) a0 h (by decide) (by decide) (by decide) (by decide) (by decide) (by decide) (by decide) (by decide) (by decide) (by decide) (by decide) (by decide) (by decide) (by decide)
  · have : fldB a0 = ⟨#[]⟩ := by unfold fldB; rw [if_neg h]
    rw [this]
    refine ⟨?_, ?_, ?_, ?_, ?_, ?_, ?_⟩
    · simp [hasC, fD]; omega
    · simp [hasC, fA]; omega
    · simp [hasC, fB]; omega
    · simp [hasC, fO]; omega
    · simp [hasC, fN]; omega
    · simp [hasC, fT]; omega
    · exact ⟨fun _ => h, fun _ => rfl⟩
end Go.Proofs.YtdopacgaklaaeaaDoor.PDeadTells

namespace Go.Proofs.YtdopacgaklaaeaaDoor.PDeadTells
open Go.RowKit Go.Proofs.YtdopacgaklaaeaaDoorW.PrintWords Go.Proofs.YtdopacgaklaaeaaDoorW.PrintLast Go.Proofs.YtdopacgaklaaeaaDoorW.PrintMore
set_option linter.unusedVariables false
set_option linter.unusedSimpArgs false
/-! palingref11.Check, in plain words. -/
def regB (a0 a1 : Int) (a2 a3 : Bool) : Bool := if a2 = true then (decide (a0 ≥ 0) && decide (a0 < a1) || (a3 && a0 == -1)) else a0 == 0
theorem reg_spec (a0 a1 : Int) (a2 a3 : Bool) : palingref11_reg.f a0 a1 a2 a3 = some (regB a0 a1 a2 a3) := by
  unfold palingref11_reg.f regB
  by_cases h0 : a0 ≥ 0 <;> by_cases h1 : a0 < a1 <;> cases a2 <;> cases a3 <;> simp [h0, h1]
  all_goals omega
def numB (kind n locks : Int) : Bool := if kind = 4 ∨ kind = 5 then decide (n ≥ 0) && decide (n ≤ 65535) else if kind = 9 ∨ kind = 10 then decide (n ≥ 0) && decide (n < locks) else if kind = 12 then n == 1 || n == 2 else true
theorem number_spec (a0 a1 a2 a3 a4 a5 a6 x : Int) : ∀ k, 2 ≤ k → palingref11_number.f k a0 a1 a2 a3 a4 a5 a6 x = some (numB a0 a5 x) := by
  intro k hk
  obtain ⟨k, rfl⟩ : ∃ m, k = m + 2 := ⟨k - 2, by omega⟩
  simp only [palingref11_number.f, palingref11_number.j0, palingref11_number.j1, numB]
  by_cases h4 : a0 = 4
  · subst h4; by_cases h : a5 ≥ 0 <;> simp [h]
  · by_cases h5 : a0 = 5
    · subst h5; by_cases h : a5 ≥ 0 <;> simp [h]
    · by_cases h9 : a0 = 9
      · subst h9; by_cases h : a5 ≥ 0 <;> simp [h]
      · by_cases h10 : a0 = 10
        · subst h10; by_cases h : a5 ≥ 0 <;> simp [h]
        · by_cases h12 : a0 = 12
          · subst h12; by_cases h : a5 = 1 <;> simp [h]
          · simp [h4, h5, h9, h10, h12]
def oneB (x : S28) (size regs locks : Int) : Bool :=
  decide (0 ≤ x.f0 ∧ x.f0 < 14) && (regB x.f2 regs (fD x.f0) false && (regB x.f3 regs (fA x.f0) (x.f0 == 4 || x.f0 == 5) && (regB x.f4 regs (fB x.f0) false &&
    ((fO x.f0 || x.f1 == 0) && (decide (0 ≤ x.f1) && (decide (x.f1 ≤ 18) && ((fN x.f0 || x.f5 == 0) && ((fT x.f0 || x.f6 == 0) && (numB x.f0 x.f5 locks && (decide (0 ≤ x.f6) && decide (x.f6 < size)))))))))))
set_option maxHeartbeats 4000000 in
theorem one_spec (x : S28) (size regs locks : Int) : Ev (fun k => palingref11_one.f k x.f0 x.f1 x.f2 x.f3 x.f4 x.f5 x.f6 size regs locks) (oneB x size regs locks) := by
  obtain ⟨e1, e2, e3, e4, e5, e6, e7⟩ := fld_has x.f0
  have hsz : (fldB x.f0).size ≤ 4611686018427387904 := by have := fld_size x.f0; omega
  obtain ⟨k1, g1⟩ := has_spec (fldB x.f0) 68 hsz
  obtain ⟨k2, g2⟩ := has_spec (fldB x.f0) 65 hsz
  obtain ⟨k3, g3⟩ := has_spec (fldB x.f0) 66 hsz
  obtain ⟨k4, g4⟩ := has_spec (fldB x.f0) 79 hsz
  obtain ⟨k5, g5⟩ := has_spec (fldB x.f0) 78 hsz
  obtain ⟨k6, g6⟩ := has_spec (fldB x.f0) 84 hsz
  rw [e1] at g1; rw [e2] at g2; rw [e3] at g3; rw [e4] at g4; rw [e5] at g5; rw [e6] at g6
  refine ⟨k1 + k2 + k3 + k4 + k5 + k6 + 5, fun k hk => ?_⟩
  have q1 := g1 k (by omega)
  have q2 := g2 k (by omega)
  have q3 := g3 k (by omega)
  have q4 := g4 k (by omega)
  have q5 := g5 k (by omega)
  have q6 := g6 k (by omega)
  have q7 := number_spec x.f0 x.f1 x.f2 x.f3 x.f4 x.f5 x.f6 locks k (by omega)
  simp only [palingref11_one.f, fields_spec, Option.bind_some, q1, q2, q3, q4, q5, q6, q7, reg_spec]
  refine congrArg some ?_
  have he : ((fldB x.f0).toList == ([] : List UInt8)) = !decide (0 ≤ x.f0 ∧ x.f0 < 14) := by
    by_cases hk : 0 ≤ x.f0 ∧ x.f0 < 14
    · have hne : ¬ ((fldB x.f0).toList = []) := by rw [toList_data, e7]; simpa using hk
      rw [beq_eq_false_iff_ne.mpr hne, decide_eq_true hk]; rfl
    · have he : (fldB x.f0).toList = [] := by rw [toList_data, e7]; exact hk
      rw [beq_iff_eq.mpr he, decide_eq_false hk]; rfl
  have d1 : ∀ z : Int, decide (18 < z) = !decide (z ≤ 18) := fun z => by by_cases h : z ≤ 18 <;> simp [h]; omega
  have d2 : ∀ z : Int, decide (z < 0) = !decide (0 ≤ z) := fun z => by by_cases h : 0 ≤ z <;> simp [h]; omega
  simp only [oneV, oneB, he, bne, d1, d2, Bool.not_or, Bool.not_and, Bool.not_not, Bool.and_assoc]
def endsB (l : List S28) : Bool := (rd_T28 l ((l.length : Int) - 1)).f0 == 6 || ((rd_T28 l ((l.length : Int) - 1)).f0 == 12 || (rd_T28 l ((l.length : Int) - 1)).f0 == 13)
def checkB (l : List S28) (regs locks : Int) : Bool := decide (1 ≤ l.length) && (decide (l.length ≤ 4096) && (l.all (fun x => oneB x l.length regs locks) && endsB l))
theorem check_spec (l : List S28) (regs locks : Int) : Ev (fun k => palingref11_Check.f k l regs locks) (checkB l regs locks) := by
  by_cases h1 : (l.length : Int) < 1
  · refine Ev.congr (fun k => rfl) (Ev.pos h1 (Ev.step (f := fun _ => some false) (fun k => rfl) (Ev.con ?_)))
    have : ¬ 1 ≤ l.length := by omega
    simp [checkB, this]
  · refine Ev.congr (fun k => rfl) (Ev.neg h1 (Ev.step (fun k => rfl) ?_))
    by_cases h2 : (l.length : Int) > 4096
    · refine Ev.pos (decide_eq_true h2) (Ev.con ?_)
      have : ¬ l.length ≤ 4096 := by omega
      simp [checkB, this]
    · refine Ev.neg (by simpa using h2) ?_
      have key : ∀ i : Int, 0 ≤ i → i ≤ l.length → Ev (fun k => palingref11_Check.l0 k l regs locks i) ((l.drop i.toNat).all (fun x => oneB x l.length regs locks) && endsB l) := by
        refine up_ind ?_ ?_
        · refine Ev.step (fun k => rfl) (Ev.neg (by omega) ?_)
          rw [wrap_in (x := (l.length : Int) - 1) (by omega) (by omega)]
          refine Ev.pos (by omega) (Ev.pos (by omega) ?_)
          rw [List.drop_eq_nil_of_le (by omega), List.all_nil, Bool.true_and]
          unfold endsB
          by_cases c1 : (rd_T28 l ((l.length : Int) - 1)).f0 = 6
          · exact Ev.pos c1 (Ev.con (by simp [c1]))
          · refine Ev.neg c1 ?_
            by_cases c2 : (rd_T28 l ((l.length : Int) - 1)).f0 = 12
            · exact Ev.pos c2 (Ev.con (by simp [c2]))
            · exact Ev.neg c2 (Ev.con (by rw [show ((rd_T28 l ((l.length : Int) - 1)).f0 == 6) = false by simpa using c1, show ((rd_T28 l ((l.length : Int) - 1)).f0 == 12) = false by simpa using c2]; rfl))
        · intro i h0 hi ih
          refine Ev.step (fun k => rfl) (Ev.pos hi (Ev.pos h0 (Ev.bind (one_spec _ _ _ _) ?_)))
          rw [getD_drop l z28 i.toNat (by omega), List.all_cons, show l.getD i.toNat z28 = rd_T28 l i from rfl]
          cases hq : oneB (rd_T28 l i) l.length regs locks with
          | true =>
            refine Ev.tt ?_
            rw [wrap_up h0 hi (by omega), Bool.true_and]
            rw [show (i + 1).toNat = i.toNat + 1 by omega] at ih
            exact ih
          | false =>
            refine Ev.ff (Ev.con ?_)
            simp
      have h3 : 1 ≤ l.length := by omega
      have h4 : l.length ≤ 4096 := by omega
      simpa [checkB, h3, h4] using key 0 (by omega) (by omega)
theorem check_facts {l : List S28} {regs locks : Int} (h : checkB l regs locks = true) : 1 ≤ l.length ∧ l.length ≤ 4096 ∧ (∀ x ∈ l, oneB x l.length regs locks = true) ∧ endsB l = true := by
  simp only [checkB, Bool.and_eq_true, decide_eq_true_eq, List.all_eq_true] at h
  exact ⟨h.1, h.2.1, h.2.2.1, h.2.2.2⟩
end Go.Proofs.YtdopacgaklaaeaaDoor.PDeadTells

namespace Go.Proofs.YtdopacgaklaaeaaDoor.PDeadTells
open Go.RowKit Go.Proofs.YtdopacgaklaaeaaDoorW.PrintWords Go.Proofs.YtdopacgaklaaeaaDoorW.PrintLast Go.Proofs.YtdopacgaklaaeaaDoorW.PrintMore
set_option linter.unusedVariables false
set_option linter.unusedSimpArgs false
/-! palingref11.Uses, Def, palingref15.Regs, in plain words. -/
def addGo (n : Int) : List Int → Bool → List Int
  | [], b => if b = true then [] else [n]
  | x :: xs, b => if x ≥ n ∧ b = false then (if x = n then n :: addGo n xs true else n :: x :: addGo n xs true) else (if x = n then addGo n xs b else x :: addGo n xs b)
def addL (l : List Int) (n : Int) : List Int := if n < 0 then l else addGo n l false
theorem addGo_len (n : Int) : ∀ (l : List Int) (b : Bool), (addGo n l b).length ≤ l.length + 1
  | [], b => by unfold addGo; cases b <;> simp
  | x :: xs, b => by
    have h1 := addGo_len n xs true
    have h2 := addGo_len n xs b
    unfold addGo
    split
    · split
      · simp only [List.length_cons]; omega
      · rename_i h _
        have : (addGo n xs true).length ≤ xs.length := by
          have key : ∀ ys : List Int, (addGo n ys true).length ≤ ys.length := by
            intro ys
            induction ys with
            | nil => simp [addGo]
            | cons y ys ih =>
              unfold addGo
              rw [if_neg (by simp)]
              split <;> simp only [List.length_cons] <;> omega
          exact key xs
        simp only [List.length_cons]; omega
    · split
      · simp only [List.length_cons]; omega
      · simp only [List.length_cons]; omega
theorem addL_len (l : List Int) (n : Int) : (addL l n).length ≤ l.length + 1 := by
  unfold addL
  split
  · omega
  · exact addGo_len n l false
theorem addGo_true (n : Int) : ∀ l : List Int, (∀ x ∈ l, n ≤ x) → (∀ i, i ∈ addGo n l true ↔ i ∈ l ∧ i ≠ n) ∧ (l.Pairwise (· < ·) → (addGo n l true).Pairwise (· < ·))
  | [], _ => by simp [addGo]
  | x :: xs, h => by
    obtain ⟨h1, h2⟩ := addGo_true n xs (fun y hy => h y (by simp [hy]))
    unfold addGo
    rw [if_neg (by simp)]
    by_cases hx : x = n
    · rw [if_pos hx]
      refine ⟨fun i => ?_, fun hp => h2 (List.pairwise_cons.1 hp).2⟩
      rw [h1]
      simp only [List.mem_cons]
      constructor
      · rintro ⟨a, b⟩; exact ⟨.inr a, b⟩
      · rintro ⟨a | a, b⟩
        · exact absurd (a.trans hx) b
        · exact ⟨a, b⟩
    · rw [if_neg hx]
      refine ⟨fun i => ?_, fun hp => ?_⟩
      · simp only [List.mem_cons, h1]
        constructor
        · rintro (a | ⟨a, b⟩)
          · exact ⟨.inl a, by rw [a]; exact hx⟩
          · exact ⟨.inr a, b⟩
        · rintro ⟨a | a, b⟩
          · exact .inl a
          · exact .inr ⟨a, b⟩
      · obtain ⟨p1, p2⟩ := List.pairwise_cons.1 hp
        exact List.pairwise_cons.2 ⟨fun i hi => p1 i ((h1 i).1 hi).1, h2 p2⟩
theorem addGo_false (n : Int) : ∀ l : List Int, l.Pairwise (· < ·) → (∀ i, i ∈ addGo n l false ↔ i ∈ l ∨ i = n) ∧ (addGo n l false).Pairwise (· < ·)
  | [], _ => by simp [addGo]
  | x :: xs, hp => by
    obtain ⟨p1, p2⟩ := List.pairwise_cons.1 hp
    unfold addGo
    by_cases hx : x ≥ n
    · rw [if_pos ⟨hx, rfl⟩]
      obtain ⟨h1, h2⟩ := addGo_true n xs (fun y hy => by have := p1 y hy; omega)
      by_cases he : x = n
      · rw [if_pos he]
        refine ⟨fun i => ?_, List.pairwise_cons.2 ⟨fun i hi => ?_, h2 p2⟩⟩
        · simp only [List.mem_cons, h1]
          constructor
          · rintro (a | ⟨a, b⟩)
            · exact .inr a
            · exact .inl (.inr a)
          · rintro ((a | a) | a)
            · exact .inl (a.trans he)
            · by_cases hin : i = n
              · exact .inl hin
              · exact .inr ⟨a, hin⟩
            · exact .inl a
        · have := p1 i ((h1 i).1 hi).1; omega
      · rw [if_neg he]
        refine ⟨fun i => ?_, List.pairwise_cons.2 ⟨fun i hi => ?_, List.pairwise_cons.2 ⟨fun i hi => p1 i ((h1 i).1 hi).1, h2 p2⟩⟩⟩
        · simp only [List.mem_cons, h1]
          constructor
          · rintro (a | a | ⟨a, b⟩)
            · exact .inr a
            · exact .inl (.inl a)
            · exact .inl (.inr a)
          · rintro ((a | a) | a)
            · exact .inr (.inl a)
            · by_cases hin : i = n
              · exact .inl hin
              · exact .inr (.inr ⟨a, hin⟩)
            · exact .inl a
        · simp only [List.mem_cons] at hi
          rcases hi with hi | hi
          · omega
          · have := p1 i ((h1 i).1 hi).1; omega
    · rw [if_neg (by simp; omega), if_neg (by omega)]
      obtain ⟨h1, h2⟩ := addGo_false n xs p2
      refine ⟨fun i => ?_, List.pairwise_cons.2 ⟨fun i hi => ?_, h2⟩⟩
      · simp only [List.mem_cons, h1]
        constructor
        · rintro (a | a | a)
          · exact .inl (.inl a)
          · exact .inl (.inr a)
          · exact .inr a
        · rintro ((a | a) | a)
          · exact .inl a
          · exact .inr (.inl a)
          · exact .inr (.inr a)
      · rcases (h1 i).1 hi with a | a
        · exact p1 i a
        · omega
theorem addL_spec (l : List Int) (n : Int) (hp : l.Pairwise (· < ·)) : (addL l n).Pairwise (· < ·) ∧ ∀ i, i ∈ addL l n ↔ i ∈ l ∨ (i = n ∧ 0 ≤ n) := by
  unfold addL
  by_cases h : n < 0
  · rw [if_pos h]
    exact ⟨hp, fun i => ⟨.inl, fun h' => h'.elim id (fun h'' => by omega)⟩⟩
  · rw [if_neg h]
    obtain ⟨h1, h2⟩ := addGo_false n l hp
    refine ⟨h2, fun i => ?_⟩
    rw [h1]
    have : 0 ≤ n := by omega
    simp [this]
theorem add_spec (l : List Int) (n : Int) (hl : l.length ≤ 1099511627776) : Ev (fun k => palingref11_add.f k l n) (addL l n) := by
  unfold addL
  by_cases h : n < 0
  · rw [if_pos h]
    exact Ev.congr (fun k => rfl) (Ev.pos h (Ev.con rfl))
  · rw [if_neg h]
    refine Ev.congr (fun k => rfl) (Ev.neg h ?_)
    have key : ∀ i : Int, 0 ≤ i → i ≤ l.length → ∀ (out : List Int) (b : Bool), out.length ≤ i + (if b = true then 1 else 0) → Ev (fun k => palingref11_add.l0 k l n out b i) (out ++ addGo n (l.drop i.toNat) b) := by
      refine up_ind ?_ ?_
      · intro out b ho
        have hob : out.length ≤ (l.length : Int) + 1 := by split at ho <;> omega
        rw [List.drop_eq_nil_of_le (by omega)]
        refine Ev.step (fun k => rfl) (Ev.neg (by omega) ?_)
        cases b with
        | true => exact Ev.pos rfl (Ev.con (by simp [addGo]))
        | false => exact Ev.neg (by simp) (Ev.pos (by omega) (Ev.con (by simp [addGo])))
      · intro i h0 hi ih out b ho
        have hob : out.length ≤ i + 1 := by split at ho <;> omega
        rw [getD_drop l 0 i.toNat (by omega), show l.getD i.toNat 0 = rd l i from rfl]
        rw [show (i + 1).toNat = i.toNat + 1 by omega] at ih
        have hw : wrap64 (i + 1) = i + 1 := wrap_up h0 hi (by omega)
        have hj : ∀ c : Bool, c = (decide (rd l i ≥ n) && !b) → Ev (fun k => palingref11_add.j1 k l n out b i c) (out ++ addGo n (rd l i :: l.drop (i.toNat + 1)) b) := by
          intro c hc
          have hun : addGo n (rd l i :: l.drop (i.toNat + 1)) b = if rd l i ≥ n ∧ b = false then (if rd l i = n then n :: addGo n (l.drop (i.toNat + 1)) true else n :: rd l i :: addGo n (l.drop (i.toNat + 1)) true) else (if rd l i = n then addGo n (l.drop (i.toNat + 1)) b else rd l i :: addGo n (l.drop (i.toNat + 1)) b) := rfl
          rw [hun]
          cases c with
          | true =>
            have hc' := hc.symm
            rw [Bool.and_eq_true, decide_eq_true_eq] at hc'
            have hn : rd l i ≥ n := hc'.1
            have hb : b = false := by simpa using hc'.2
            have ho' : out.length ≤ i := by rw [hb] at ho; simpa using ho
            rw [if_pos ⟨hn, hb⟩]
            refine Ev.step (fun k => rfl) (Ev.pos (c := out.length < 17592186044416) (by omega) (Ev.bind (Ev.con rfl) (Ev.pos (c := 0 ≤ i) h0 (Ev.pos (c := i < (l.length : Int)) hi ?_))))
            by_cases he : rd l i = n
            · rw [if_pos he]
              refine Ev.pos he ?_
              rw [hw]
              simpa using ih (out ++ [n]) true (by simp; omega)
            · rw [if_neg he]
              refine Ev.neg he (Ev.pos (c := (out ++ [n]).length < 17592186044416) (by simp; omega) ?_)
              rw [hw]
              simpa using ih (out ++ [n] ++ [rd l i]) true (by simp; omega)
          | false =>
            have hnb : ¬ (rd l i ≥ n ∧ b = false) := by
              rintro ⟨a, rfl⟩
              simp [a] at hc
            rw [if_neg hnb]
            refine Ev.step (fun k => rfl) (Ev.pos (c := 0 ≤ i) h0 (Ev.pos (c := i < (l.length : Int)) hi ?_))
            by_cases he : rd l i = n
            · rw [if_pos he]
              refine Ev.pos he ?_
              rw [hw]
              exact ih out b (by clear hc hnb; revert ho; cases b <;> simp <;> omega)
            · rw [if_neg he]
              refine Ev.neg he (Ev.pos (c := out.length < 17592186044416) (by omega) ?_)
              rw [hw]
              simpa using ih (out ++ [rd l i]) b (by clear hc hnb; revert ho; cases b <;> simp <;> omega)
        refine Ev.step (fun k => rfl) (Ev.pos hi (Ev.pos h0 ?_))
        by_cases c : rd l i ≥ n
        · exact Ev.pos c (hj (!b) (by simp [c]))
        · exact Ev.neg c (hj false (by simp [c]))
    simpa using key 0 (by omega) (by omega) [] false (by simp)
def usesL (x : S28) : List Int :=
  let a := if x.f0 = 3 then addL [] x.f2 else []
  let b := if fA x.f0 = true then addL a x.f3 else a
  if fB x.f0 = true then addL b x.f4 else b
theorem usesL_spec (x : S28) : (usesL x).Pairwise (· < ·) ∧ (∀ i, i ∈ usesL x ↔ 0 ≤ i ∧ ((x.f0 = 3 ∧ i = x.f2) ∨ (fA x.f0 = true ∧ i = x.f3) ∨ (fB x.f0 = true ∧ i = x.f4))) ∧ (usesL x).length ≤ 3 := by
  obtain ⟨a, ha⟩ : ∃ a, a = if x.f0 = 3 then addL [] x.f2 else [] := ⟨_, rfl⟩
  obtain ⟨b, hb⟩ : ∃ b, b = if fA x.f0 = true then addL a x.f3 else a := ⟨_, rfl⟩
  have hu : usesL x = if fB x.f0 = true then addL b x.f4 else b := by rw [hb, ha]; rfl
  have a1 : a.Pairwise (· < ·) ∧ (∀ i, i ∈ a ↔ 0 ≤ i ∧ x.f0 = 3 ∧ i = x.f2) ∧ a.length ≤ 1 := by
    rw [ha]
    by_cases h : x.f0 = 3
    · rw [if_pos h]
      obtain ⟨p, q⟩ := addL_spec [] x.f2 List.Pairwise.nil
      refine ⟨p, fun i => ?_, addL_len [] x.f2⟩
      rw [q]; simp only [List.not_mem_nil, false_or]
      constructor
      · rintro ⟨rfl, h0⟩; exact ⟨h0, h, rfl⟩
      · rintro ⟨h0, _, rfl⟩; exact ⟨rfl, h0⟩
    · rw [if_neg h]
      refine ⟨List.Pairwise.nil, fun i => ?_, by simp⟩
      simp [h]
  have b1 : b.Pairwise (· < ·) ∧ (∀ i, i ∈ b ↔ 0 ≤ i ∧ ((x.f0 = 3 ∧ i = x.f2) ∨ (fA x.f0 = true ∧ i = x.f3))) ∧ b.length ≤ 2 := by
    rw [hb]
    by_cases h : fA x.f0 = true
    · rw [if_pos h]
      obtain ⟨p, q⟩ := addL_spec a x.f3 a1.1
      refine ⟨p, fun i => ?_, by have := addL_len a x.f3; omega⟩
      rw [q, a1.2.1]
      constructor
      · rintro (⟨h0, h1⟩ | ⟨rfl, h0⟩)
        · exact ⟨h0, .inl h1⟩
        · exact ⟨h0, .inr ⟨h, rfl⟩⟩
      · rintro ⟨h0, h1 | ⟨_, rfl⟩⟩
        · exact .inl ⟨h0, h1⟩
        · exact .inr ⟨rfl, h0⟩
    · rw [if_neg h]
      refine ⟨a1.1, fun i => ?_, by omega⟩
      rw [a1.2.1]
      simp [h]
  rw [hu]
  by_cases h : fB x.f0 = true
  · rw [if_pos h]
    obtain ⟨p, q⟩ := addL_spec b x.f4 b1.1
    refine ⟨p, fun i => ?_, by have := addL_len b x.f4; omega⟩
    rw [q, b1.2.1]
    constructor
    · rintro (⟨h0, h1⟩ | ⟨rfl, h0⟩)
      · exact ⟨h0, h1.elim .inl (fun h2 => .inr (.inl h2))⟩
      · exact ⟨h0, .inr (.inr ⟨h, rfl⟩)⟩
    · rintro ⟨h0, h1 | h1 | ⟨_, rfl⟩⟩
      · exact .inl ⟨h0, .inl h1⟩
      · exact .inl ⟨h0, .inr h1⟩
      · exact .inr ⟨rfl, h0⟩
  · rw [if_neg h]
    refine ⟨b1.1, fun i => ?_, by omega⟩
    rw [b1.2.1]
    simp [h]
theorem uses_spec (x : S28) : Ev (fun k => palingref11_Uses.f k x.f0 x.f1 x.f2 x.f3 x.f4 x.f5 x.f6) (usesL x) := by
  obtain ⟨_, e2, e3, _, _, _, _⟩ := fld_has x.f0
  have hsz : (fldB x.f0).size ≤ 4611686018427387904 := by have := fld_size x.f0; omega
  have hj : ∀ a : List Int, a.length ≤ 10 → Ev (fun k => palingref11_Uses.j0 k (fldB x.f0) a x.f0 x.f1 x.f2 x.f3 x.f4 x.f5 x.f6) (if fB x.f0 = true then addL (if fA x.f0 = true then addL a x.f3 else a) x.f4 else (if fA x.f0 = true then addL a x.f3 else a)) := by
    intro a ha
    have h1 : ∀ b : List Int, b.length ≤ 20 → Ev (fun k => palingref11_Uses.j1 k (fldB x.f0) b x.f0 x.f1 x.f2 x.f3 x.f4 x.f5 x.f6) (if fB x.f0 = true then addL b x.f4 else b) := by
      intro b hb
      have h3 := has_spec (fldB x.f0) 66 hsz
      rw [e3] at h3
      refine Ev.step (fun k => rfl) (Ev.bind h3 ?_)
      cases fB x.f0 with
      | true => exact Ev.tt (Ev.bind (add_spec b x.f4 (by omega)) (Ev.con (by simp)))
      | false => exact Ev.neg (by simp) (Ev.con (by simp))
    have h2 := has_spec (fldB x.f0) 65 hsz
    rw [e2] at h2
    refine Ev.step (fun k => rfl) (Ev.bind h2 ?_)
    cases fA x.f0 with
    | true => exact Ev.tt (Ev.bind (add_spec a x.f3 (by omega)) (h1 _ (by have := addL_len a x.f3; omega)))
    | false => exact Ev.neg (by simp) (h1 a (by omega))
  refine Ev.congr (f := fun k => if x.f0 = 3 then (palingref11_add.f k [] x.f2).bind fun t => palingref11_Uses.j0 k (fldB x.f0) t x.f0 x.f1 x.f2 x.f3 x.f4 x.f5 x.f6 else palingref11_Uses.j0 k (fldB x.f0) [] x.f0 x.f1 x.f2 x.f3 x.f4 x.f5 x.f6) (fun k => by simp only [palingref11_Uses.f, fields_spec, Option.bind_some]) ?_
  unfold usesL
  by_cases h : x.f0 = 3
  · simp only [if_pos h]
    exact Ev.bind (add_spec [] x.f2 (by simp)) (hj _ (by have := addL_len [] x.f2; simp at this; omega))
  · simp only [if_neg h]
    exact hj [] (by simp)
def defL (x : S28) : Int := if fD x.f0 = true then x.f2 else -1
theorem def_spec (x : S28) : Ev (fun k => palingref11_Def.f k x.f0 x.f1 x.f2 x.f3 x.f4 x.f5 x.f6) (defL x) := by
  obtain ⟨e1, _⟩ := fld_has x.f0
  have hsz : (fldB x.f0).size ≤ 4611686018427387904 := by have := fld_size x.f0; omega
  have h1 := has_spec (fldB x.f0) 68 hsz
  rw [e1] at h1
  refine Ev.congr (f := fun k => (palingref11_Has.f k (fldB x.f0) 68).bind fun t => if t = true then some x.f2 else some (-1)) (fun k => by simp only [palingref11_Def.f, fields_spec, Option.bind_some]) (Ev.bind h1 ?_)
  unfold defL
  cases fD x.f0 with
  | true => exact Ev.con (by simp)
  | false => exact Ev.con (by simp)
end Go.Proofs.YtdopacgaklaaeaaDoor.PDeadTells
