import Derived.Test.YtggfikekggcclaaDoorPInsTellsx0
import Derived.Test.YtggfikekggcclaaDoorPInsTellshcalc
import Derived.Test.YtggfikekggcclaaDoorPInsTellshdigits01
import Derived.Test.YtggfikekggcclaaDoorPInsTellshinsshow
import Derived.Test.YtggfikekggcclaaDoorPInsTellshpure
import Derived.Test.YtggfikekggcclaaDoorPInsTellshshowref
import Derived.Test.YtggfikekggcclaaDoorPInsTellshforms
import Derived.Test.YtggfikekggcclaaDoorPInsTellshref11
import Derived.Test.YtggfikekggcclaaDoorPInsTellsx5
import Derived.Test.YtggfikekggcclaaDoorPInsTellshbytes
import Derived.Test.YtggfikekggcclaaDoorPInsTellshcompact
import Derived.Test.YtggfikekggcclaaDoorPInsTellshinscheck
import Derived.Test.YtggfikekggcclaaDoorPInsTellshinsnext
import Derived.Test.YtggfikekggcclaaDoorPInsTellshinsregs
import Derived.Test.YtggfikekggcclaaDoorPInsTellshinsright
import Derived.Test.YtggfikekggcclaaDoorPInsTellshinsuses
import Derived.Test.YtggfikekggcclaaDoorPInsTellsx1
import Derived.Test.YtggfikekggcclaaDoorPInsTellsx6
namespace Go.Proofs.YtggfikekggcclaaDoor.PInsTells
open Go.RowKit Go.Proofs.YtggfikekggcclaaDoorW.PrintWords Go.Proofs.YtggfikekggcclaaDoorW.PrintLast Go.Proofs.YtggfikekggcclaaDoorW.PrintMore
set_option linter.unusedVariables false
set_option linter.unusedSimpArgs false
/-! The reference's digits and texts are the program's. -/
theorem digref_spec (n : Int) (h : -9223372036854775808 ≤ n ∧ n ≤ 9223372036854775807) : Ev (fun _ : Nat => palingref01_Digits.f n) (digB n) := Ev.con (if_pos h)
theorem showref_spec (k0 op d a b n to_ : Int) (hd : inI64 d) (ha : inI64 a) (hb : inI64 b) (hn : inI64 n) (ht : inI64 to_) : Ev (fun _ : Nat => palingref11_Show.f k0 op d a b n to_) (showB k0 op d a b n to_) := Ev.con (if_pos ⟨hd, ha, hb, hn, ht⟩)
end Go.Proofs.YtggfikekggcclaaDoor.PInsTells

namespace Go.Proofs.YtggfikekggcclaaDoor.PInsTells
open Go.RowKit Go.Proofs.YtggfikekggcclaaDoorW.PrintWords Go.Proofs.YtggfikekggcclaaDoorW.PrintLast Go.Proofs.YtggfikekggcclaaDoorW.PrintMore
set_option linter.unusedVariables false
set_option linter.unusedSimpArgs false
open Go.Shelf
/-! The program's table of forms is the reference's. -/
theorem form_tab (k : Int) : fD k = fmB 1 k ∧ fA k = fmB 2 k ∧ fB k = fmB 3 k ∧ fO k = fmB 4 k ∧ fN k = fmB 5 k ∧ fT k = fmB 6 k ∧ (k == 4 || k == 5) = fmB 7 k ∧ (k == 12 || k == 13) = fmB 9 k := by
  by_cases hk : 0 ≤ k ∧ k < 14
  · have : ∀ i : Fin 14, fD (i.val : Int) = fmB 1 i.val ∧ fA (i.val : Int) = fmB 2 i.val ∧ fB (i.val : Int) = fmB 3 i.val ∧ fO (i.val : Int) = fmB 4 i.val ∧ fN (i.val : Int) = fmB 5 i.val ∧ fT (i.val : Int) = fmB 6 i.val ∧ ((i.val : Int) == 4 || (i.val : Int) == 5) = fmB 7 i.val ∧ ((i.val : Int) == 12 || (i.val : Int) == 13) = fmB 9 i.val := by decide +kernel
    have := this ⟨k.toNat, by omega⟩
    simp only [show ((k.toNat : Nat) : Int) = k by omega] at this
    exact this
  · rw [fmB_out 1 (by decide) k hk, fmB_out 2 (by decide) k hk, fmB_out 3 (by decide) k hk, fmB_out 4 (by decide) k hk, fmB_out 5 (by decide) k hk, fmB_out 6 (by decide) k hk, fmB_out 7 (by decide) k hk, fmB_out 9 (by decide) k hk]
    have h1 : ∀ c : Int, 0 ≤ c → c < 14 → (k == c) = false := fun c h0 h1 => by simp; omega
    simp [fD, fA, fB, fO, fN, fT, h1]
theorem form_pick (k : Int) : fmB 8 k = (k == 3) := by
  by_cases hk : 0 ≤ k ∧ k < 14
  · have : ∀ i : Fin 14, fmB 8 (i.val : Int) = ((i.val : Int) == 3) := by decide +kernel
    have := this ⟨k.toNat, by omega⟩
    simp only [show ((k.toNat : Nat) : Int) = k by omega] at this
    exact this
  · rw [fmB_out 8 (by decide) k hk]
    simp; omega
end Go.Proofs.YtggfikekggcclaaDoor.PInsTells

namespace Go.Proofs.YtggfikekggcclaaDoor.PInsTells
open Go.RowKit Go.Proofs.YtggfikekggcclaaDoorW.PrintWords Go.Proofs.YtggfikekggcclaaDoorW.PrintLast Go.Proofs.YtggfikekggcclaaDoorW.PrintMore
set_option linter.unusedVariables false
set_option linter.unusedSimpArgs false
open Go.Shelf
/-! Package ins in plain words: what the laws of this chapter share. -/
theorem right_out {k op d a b n to_ size regs locks : Int} (h : rightB k op d a b n to_ size regs locks = true) : (0 ≤ k ∧ k < 14) ∧ (fmB 1 k = true → 0 ≤ d ∧ d < regs) ∧ (fmB 2 k = true → (0 ≤ a ∧ a < regs) ∨ a = -1) ∧ (fmB 3 k = true → 0 ≤ b ∧ b < regs) ∧ 0 ≤ to_ ∧ to_ < size := by
  unfold rightB opB at h
  simp only [Bool.and_eq_true, decide_eq_true_eq] at h
  obtain ⟨⟨⟨hk, ⟨h1, h2⟩, h3⟩, _⟩, ⟨⟨_, ht0⟩, ht1⟩⟩ := h
  refine ⟨hk, fun q => ?_, fun q => ?_, fun q => ?_, ht0, ht1⟩
  · rw [q] at h1; simpa [iregB] using h1
  · rw [q] at h2
    simp only [iregB, if_true, Bool.or_eq_true, Bool.and_eq_true, decide_eq_true_eq, beq_iff_eq] at h2
    rcases h2 with h2 | h2
    · exact .inl ⟨h2.1, h2.2⟩
    · exact .inr h2.2
  · rw [q] at h3; simpa [iregB] using h3
theorem iregB_more {n regs : Int} {own bare : Bool} (h : iregB n regs own bare = true) : iregB n (regs + 1) own bare = true := by
  unfold iregB at h ⊢
  cases own with
  | false => exact h
  | true =>
    simp only [if_true, Bool.or_eq_true, Bool.and_eq_true, decide_eq_true_eq] at h ⊢
    rcases h with h | h
    · exact .inl ⟨h.1, by omega⟩
    · exact .inr h
theorem mx_in {a b : Int} : mx a b = max a b := by unfold mx; omega
theorem inumB_more {k n locks : Int} (h0 : 0 ≤ locks) (h1 : locks ≤ 1000) (h : inumB k n locks = true) : inumB k n (locks + 3) = true := by
  have e1 : wrap64 (mx locks 0 - 1) = locks - 1 := by rw [mx_in]; exact (wrap_in (by omega) (by omega)).trans (by omega)
  have e2 : wrap64 (mx (locks + 3) 0 - 1) = locks + 2 := by rw [mx_in]; exact (wrap_in (by omega) (by omega)).trans (by omega)
  unfold inumB at h ⊢
  rw [e1] at h
  rw [e2]
  split
  · rename_i h4
    rw [if_pos h4] at h; exact h
  · rename_i h4
    rw [if_neg h4] at h
    split
    · rename_i h5
      rw [if_pos h5] at h
      simp only [Bool.and_eq_true, decide_eq_true_eq] at h ⊢
      omega
    · rename_i h5
      rw [if_neg h5] at h; exact h
theorem right_more {k op d a b n to_ size regs locks : Int} (h0 : 0 ≤ locks) (h1 : locks ≤ 1000) (h : rightB k op d a b n to_ size regs locks = true) : rightB k op d a b n to_ size (regs + 1) (locks + 3) = true := by
  unfold rightB opB at h ⊢
  simp only [Bool.and_eq_true] at h ⊢
  obtain ⟨⟨⟨hk, ⟨h1', h2⟩, h3⟩, h4⟩, ⟨⟨⟨h5, h6⟩, ht0⟩, ht1⟩⟩ := h
  exact ⟨⟨⟨hk, ⟨iregB_more h1', iregB_more h2⟩, iregB_more h3⟩, h4⟩, ⟨⟨⟨h5, inumB_more h0 h1 h6⟩, ht0⟩, ht1⟩⟩
theorem reads_own (k : Int) (h : fmB 8 k = true) : fmB 1 k = true := by
  by_cases hk : 0 ≤ k ∧ k < 14
  · have : ∀ i : Fin 14, fmB 8 (i.val : Int) = true → fmB 1 (i.val : Int) = true := by decide +kernel
    have := this ⟨k.toNat, by omega⟩
    rw [show (((⟨k.toNat, by omega⟩ : Fin 14).val : Nat) : Int) = k by simp; omega] at this
    exact this h
  · rw [fmB_out 8 (by decide) k hk] at h; exact absurd h (by simp)
theorem uses_ex : ins_Uses.f 3 0 3 1 3 0 0 = some [1, 3] := by
  show some (useRegs (useL 3 3 1 3)) = _
  rw [show useL 3 3 1 3 = [1, 3, 3] by decide +kernel]
  refine congrArg some (rising_ext (useRegs_spec _).1 (by simp) (fun i => ?_))
  rw [(useRegs_spec _).2]
  simp
  omega
theorem next_ex : ins_Next.f 7 0 0 2 0 0 0 1 = some [0, 2] := by
  have e : ins_Next.f 7 0 0 2 0 0 0 1 = some (twoL 2 0) := by
    unfold ins_Next.f
    rw [if_neg (by rw [show fmB 9 7 = false by decide +kernel]; simp), if_neg (by omega), if_pos rfl, wrap_in (by omega) (by omega)]
    rfl
  rw [e]
  refine congrArg some (rising_ext (twoL_spec _ _).1 (by simp) (fun i => ?_))
  rw [(twoL_spec _ _).2]
  simp
  omega
set_option maxRecDepth 100000 in
theorem awakeNow : palinglaw11_awake.f 20 = some true := by
  unfold palinglaw11_awake.f
  simp only [Option.bind_some, show rd_T23 [(⟨4, 0, 2, 0, 0, 17, 0⟩ : S23), (⟨7, 0, 0, 2, 0, 0, 0⟩ : S23), (⟨13, 0, 0, 0, 0, 0, 0⟩ : S23)] 1 = ⟨7, 0, 0, 2, 0, 0, 0⟩ from rfl]
  rw [uses_ex, next_ex]
  decide +kernel
theorem awake_ev : Ev (fun k => palinglaw11_awake.f k) true := Ev.of palinglaw11_awake.mono awakeNow
theorem check_at {l : List S23} {regs locks : Int} (h : icheckB l regs locks = true) (i : Int) (h0 : 0 ≤ i) (h1 : i < l.length) : rightS (rd_T23 l i) l.length regs locks = true ∧ ((rd_T23 l i).f0 ≠ 6 → fmB 9 (rd_T23 l i).f0 = false → i + 1 < l.length) := by
  unfold icheckB at h
  simp only [Bool.and_eq_true, List.all_eq_true] at h
  obtain ⟨⟨_, hall⟩, hlast⟩ := h
  have hi : i.toNat < l.length := by omega
  have hx : rd_T23 l i = l[i.toNat] := by unfold rd_T23; rw [List.getD_eq_getElem?_getD, List.getElem?_eq_getElem hi]; rfl
  refine ⟨hall _ (by rw [hx]; exact List.getElem_mem hi), fun h6 h9 => ?_⟩
  by_cases he : i.toNat = l.length - 1
  · rw [← he] at hlast
    have hx' : rd_T23 l i = l.getD i.toNat z23 := rfl
    rw [← hx', h9] at hlast
    simp at hlast
    exact absurd hlast h6
  · omega
theorem wf64 {n : Int} (h : (Lit.int .i64 n).wf = true) : inI64 n := by
  simp [Lit.wf, IntKind.min, IntKind.max, IntKind.signed, IntKind.bits] at h
  exact ⟨by omega, by omega⟩
theorem rd_memI {l : List Int} {j : Int} (h0 : 0 ≤ j) (h1 : j < l.length) : rd l j ∈ l := by
  have hi : j.toNat < l.length := by omega
  have hx : rd l j = l[j.toNat] := by unfold rd; rw [List.getD_eq_getElem?_getD, List.getElem?_eq_getElem hi]; rfl
  rw [hx]; exact List.getElem_mem hi
/-- where an instruction may go to -/
def nextV (y : S23) (i : Int) : List Int := if ¬ (0 ≤ y.f0 ∧ y.f0 < 14) ∨ fmB 9 y.f0 = true then [] else if y.f0 = 6 then [y.f6] else if y.f0 = 7 then twoL (i + 1) y.f6 else [i + 1]
theorem nextV_f (y : S23) (i : Int) (h : wrap64 (i + 1) = i + 1) : ins_Next.f y.f0 y.f1 y.f2 y.f3 y.f4 y.f5 y.f6 i = some (nextV y i) := by
  unfold ins_Next.f nextV
  rw [h]
theorem nextV_mem {y : S23} {i j : Int} (h : j ∈ nextV y i) : (y.f0 = 6 ∧ j = y.f6) ∨ (fmB 9 y.f0 = false ∧ y.f0 ≠ 6 ∧ j = i + 1) ∨ (y.f0 = 7 ∧ j = y.f6) := by
  unfold nextV at h
  split at h
  · simp at h
  · rename_i h9
    have h9' : fmB 9 y.f0 = false := by
      cases hh : fmB 9 y.f0 with
      | false => rfl
      | true => exact absurd (.inr hh) h9
    split at h
    · rename_i h6; simp at h; exact .inl ⟨h6, h⟩
    · rename_i h6
      split at h
      · rename_i h7
        rw [(twoL_spec _ _).2] at h
        rcases h with h | h
        · exact .inr (.inl ⟨h9', h6, h⟩)
        · exact .inr (.inr ⟨h7, h⟩)
      · simp at h; exact .inr (.inl ⟨h9', h6, h⟩)
theorem nextV_len (y : S23) (i : Int) : (nextV y i).length ≤ 2 := by
  unfold nextV
  split
  · simp
  · split
    · simp
    · split
      · unfold twoL
        refine Nat.le_trans (compact_len _) ?_
        rw [List.length_mergeSort]
        simp
      · simp
theorem toList_nil {s : ByteArray} (h : s.toList = []) : s.size = 0 := by
  have := congrArg List.length h
  rw [toList_data] at this
  exact (Array.length_toList).symm.trans this
theorem show_ne (k op d a b n to_ : Int) (hk : 0 ≤ k ∧ k < 14) : ¬ (showB k op d a b n to_).toList = [] := by
  intro h
  have h1 := toList_nil h
  have h2 : (fmW k).size ≠ 0 := by
    have : ∀ i : Fin 14, (fmW (i.val : Int)).size ≠ 0 := by decide +kernel
    have := this ⟨k.toNat, by omega⟩
    rwa [show (((⟨k.toNat, by omega⟩ : Fin 14).val : Nat) : Int) = k by simp; omega] at this
  have h3 : (showB k op d a b n to_).size = (Lib.join ((showParts k op d a b n to_).map (·.data.toList)) [32]).length := List.size_toArray
  rw [h3] at h1
  unfold showParts at h1
  simp only [List.cons_append, List.nil_append, List.map_cons, Lib.join_cons, List.length_append] at h1
  have h4 : (fmW k).data.toList.length = (fmW k).size := Array.length_toList
  omega
end Go.Proofs.YtggfikekggcclaaDoor.PInsTells

namespace Go.Proofs.YtggfikekggcclaaDoor.PInsTells
open Go.RowKit Go.Proofs.YtggfikekggcclaaDoorW.PrintWords Go.Proofs.YtggfikekggcclaaDoorW.PrintLast Go.Proofs.YtggfikekggcclaaDoorW.PrintMore
set_option linter.unusedVariables false
set_option linter.unusedSimpArgs false
/-- palinglaw11.ints: are two rows one? -/
theorem ints11_spec (l m : List Int) (hl : l.length ≤ 4611686018427387904) : Ev (fun k => palinglaw11_ints.f k l m) (decide (l = m)) := by
  by_cases he : l.length = m.length
  · have key : ∀ i : Int, 0 ≤ i → i ≤ l.length → Ev (fun k => palinglaw11_ints.l0 k l m i) (decide (l.drop i.toNat = m.drop i.toNat)) := by
      refine up_ind ?_ ?_
      · refine Ev.step (fun k => rfl) (Ev.neg (by omega) (Ev.con ?_))
        rw [List.drop_eq_nil_of_le (by omega), List.drop_eq_nil_of_le (by omega)]
        simp
      · intro i h0 h1 ih
        refine Ev.step (fun k => rfl) (Ev.pos h1 (Ev.pos h0 (Ev.pos (by omega) ?_)))
        rw [getD_drop l 0 i.toNat (by omega), getD_drop m 0 i.toNat (by omega)]
        have ha : rd l i = l.getD i.toNat 0 := rfl
        have hb : rd m i = m.getD i.toNat 0 := rfl
        by_cases hq : rd l i = rd m i
        · refine Ev.pos hq ?_
          rw [wrap_up h0 h1 hl]
          rw [show (i + 1).toNat = i.toNat + 1 by omega] at ih
          have : decide (l.getD i.toNat 0 :: l.drop (i.toNat + 1) = m.getD i.toNat 0 :: m.drop (i.toNat + 1)) = decide (l.drop (i.toNat + 1) = m.drop (i.toNat + 1)) := by
            rw [← ha, ← hb, hq]; simp
          rw [this]
          exact ih
        · refine Ev.neg hq (Ev.con ?_)
          rw [← ha, ← hb]
          simp [hq]
    refine Ev.congr (fun k => rfl) (Ev.pos (by omega) ?_)
    simpa using key 0 (by omega) (by omega)
  · refine Ev.congr (fun k => rfl) (Ev.neg (by omega) (Ev.con ?_))
    have : l ≠ m := fun h => he (by rw [h])
    simp [this]
end Go.Proofs.YtggfikekggcclaaDoor.PInsTells

namespace Go.Proofs.YtggfikekggcclaaDoor.PInsTells
open Go.RowKit Go.Proofs.YtggfikekggcclaaDoorW.PrintWords Go.Proofs.YtggfikekggcclaaDoorW.PrintLast Go.Proofs.YtggfikekggcclaaDoorW.PrintMore
set_option linter.unusedVariables false
set_option linter.unusedSimpArgs false
/-! palingref11.Uses, Def, palingref15.Regs, in plain words. -/
def addGo (n : Int) : List Int → Bool → List Int
  | [], b => if b = true then [] else [n]
  | x :: xs, b => if x ≥ n ∧ b = false then (if x = n then n :: addGo n xs true else n :: x :: addGo n xs true) else (if x = n then addGo n xs b else x :: addGo n xs b)
def addL (l : List Int) (n : Int) : List Int := if n < 0 then l else addGo n l false
theorem addGo_len (n : Int) : ∀ (l : List Int) (b : Bool), (addGo n l b).length ≤ l.length + 1
  | [], b => by unfold addGo; cases b <;> simp
  | x :: xs, b => by
    have h1 := addGo_len n xs true
    have h2 := addGo_len n xs b
    unfold addGo
    split
    · split
      · simp only [List.length_cons]; omega
      · rename_i h _
        have : (addGo n xs true).length ≤ xs.length := by
          have key : ∀ ys : List Int, (addGo n ys true).length ≤ ys.length := by
            intro ys
            induction ys with
            | nil => simp [addGo]
            | cons y ys ih =>
              unfold addGo
              rw [if_neg (by simp)]
              split <;> simp only [List.length_cons] <;> omega
          exact key xs
        simp only [List.length_cons]; omega
    · split
      · simp only [List.length_cons]; omega
      · simp only [List.length_cons]; omega
theorem addL_len (l : List Int) (n : Int) : (addL l n).length ≤ l.length + 1 := by
  unfold addL
  split
  · omega
  · exact addGo_len n l false
theorem addGo_true (n : Int) : ∀ l : List Int, (∀ x ∈ l, n ≤ x) → (∀ i, i ∈ addGo n l true ↔ i ∈ l ∧ i ≠ n) ∧ (l.Pairwise (· < ·) → (addGo n l true).Pairwise (· < ·))
  | [], _ => by simp [addGo]
  | x :: xs, h => by
    obtain ⟨h1, h2⟩ := addGo_true n xs (fun y hy => h y (by simp [hy]))
    unfold addGo
    rw [if_neg (by simp)]
    by_cases hx : x = n
    · rw [if_pos hx]
      refine ⟨fun i => ?_, fun hp => h2 (List.pairwise_cons.1 hp).2⟩
      rw [h1]
      simp only [List.mem_cons]
      constructor
      · rintro ⟨a, b⟩; exact ⟨.inr a, b⟩
      · rintro ⟨a | a, b⟩
        · exact absurd (a.trans hx) b
        · exact ⟨a, b⟩
    · rw [if_neg hx]
      refine ⟨fun i => ?_, fun hp => ?_⟩
      · simp only [List.mem_cons, h1]
        constructor
        · rintro (a | ⟨a, b⟩)
          · exact ⟨.inl a, by rw [a]; exact hx⟩
          · exact ⟨.inr a, b⟩
        · rintro ⟨a | a, b⟩
          · exact .inl a
          · exact .inr ⟨a, b⟩
      · obtain ⟨p1, p2⟩ := List.pairwise_cons.1 hp
        exact List.pairwise_cons.2 ⟨fun i hi => p1 i ((h1 i).1 hi).1, h2 p2⟩
theorem addGo_false (n : Int) : ∀ l : List Int, l.Pairwise (· < ·) → (∀ i, i ∈ addGo n l false ↔ i ∈ l ∨ i = n) ∧ (addGo n l false).Pairwise (· < ·)
  | [], _ => by simp [addGo]
  | x :: xs, hp => by
    obtain ⟨p1, p2⟩ := List.pairwise_cons.1 hp
    unfold addGo
    by_cases hx : x ≥ n
    · rw [if_pos ⟨hx, rfl⟩]
      obtain ⟨h1, h2⟩ := addGo_true n xs (fun y hy => by have := p1 y hy; omega)
      by_cases he : x = n
      · rw [if_pos he]
        refine ⟨fun i => ?_, List.pairwise_cons.2 ⟨fun i hi => ?_, h2 p2⟩⟩
        · simp only [List.mem_cons, h1]
          constructor
          · rintro (a | ⟨a, b⟩)
            · exact .inr a
            · exact .inl (.inr a)
          · rintro ((a | a) | a)
            · exact .inl (a.trans he)
            · by_cases hin : i = n
              · exact .inl hin
              · exact .inr ⟨a, hin⟩
            · exact .inl a
        · have := p1 i ((h1 i).1 hi).1; omega
      · rw [if_neg he]
        refine ⟨fun i => ?_, List.pairwise_cons.2 ⟨fun i hi => ?_, List.pairwise_cons.2 ⟨fun i hi => p1 i ((h1 i).1 hi).1, h2 p2⟩⟩⟩
        · simp only [List.mem_cons, h1]
          constructor
          · rintro (a | a | ⟨a, b⟩)
            · exact .inr a
            · exact .inl (.inl a)
            · exact .inl (.inr a)
          · rintro ((a | a) | a)
            · exact .inr (.inl a)
            · by_cases hin : i = n
              · exact .inl hin
              · exact .inr (.inr ⟨a, hin⟩)
            · exact .inl a
        · simp only [List.mem_cons] at hi
          rcases hi with hi | hi
          · omega
          · have := p1 i ((h1 i).1 hi).1; omega
    · rw [if_neg (by simp; omega), if_neg (by omega)]
      obtain ⟨h1, h2⟩ := addGo_false n xs p2
      refine ⟨fun i => ?_, List.pairwise_cons.2 ⟨fun i hi => ?_, h2⟩⟩
      · simp only [List.mem_cons, h1]
        constructor
        · rintro (a | a | a)
          · exact .inl (.inl a)
          · exact .inl (.inr a)
          · exact .inr a
        · rintro ((a | a) | a)
          · exact .inl a
          · exact .inr (.inl a)
          · exact .inr (.inr a)
      · rcases (h1 i).1 hi with a | a
        · exact p1 i a
        · omega
theorem addL_spec (l : List Int) (n : Int) (hp : l.Pairwise (· < ·)) : (addL l n).Pairwise (· < ·) ∧ ∀ i, i ∈ addL l n ↔ i ∈ l ∨ (i = n ∧ 0 ≤ n) := by
  unfold addL
  by_cases h : n < 0
  · rw [if_pos h]
    exact ⟨hp, fun i => ⟨.inl, fun h' => h'.elim id (fun h'' => by omega)⟩⟩
  · rw [if_neg h]
    obtain ⟨h1, h2⟩ := addGo_false n l hp
    refine ⟨h2, fun i => ?_⟩
    rw [h1]
    have : 0 ≤ n := by omega
    simp [this]
theorem add_spec (l : List Int) (n : Int) (hl : l.length ≤ 1099511627776) : Ev (fun k => palingref11_add.f k l n) (addL l n) := by
  unfold addL
  by_cases h : n < 0
  · rw [if_pos h]
    exact Ev.congr (fun k => rfl) (Ev.pos h (Ev.con rfl))
  · rw [if_neg h]
    refine Ev.congr (fun k => rfl) (Ev.neg h ?_)
    have key : ∀ i : Int, 0 ≤ i → i ≤ l.length → ∀ (out : List Int) (b : Bool), out.length ≤ i + (if b = true then 1 else 0) → Ev (fun k => palingref11_add.l0 k l n out b i) (out ++ addGo n (l.drop i.toNat) b) := by
      refine up_ind ?_ ?_
      · intro out b ho
        have hob : out.length ≤ (l.length : Int) + 1 := by split at ho <;> omega
        rw [List.drop_eq_nil_of_le (by omega)]
        refine Ev.step (fun k => rfl) (Ev.neg (by omega) ?_)
        cases b with
        | true => exact Ev.pos rfl (Ev.con (by simp [addGo]))
        | false => exact Ev.neg (by simp) (Ev.pos (by omega) (Ev.con (by simp [addGo])))
      · intro i h0 hi ih out b ho
        have hob : out.length ≤ i + 1 := by split at ho <;> omega
        rw [getD_drop l 0 i.toNat (by omega), show l.getD i.toNat 0 = rd l i from rfl]
        rw [show (i + 1).toNat = i.toNat + 1 by omega] at ih
        have hw : wrap64 (i + 1) = i + 1 := wrap_up h0 hi (by omega)
        have hj : ∀ c : Bool, c = (decide (rd l i ≥ n) && !b) → Ev (fun k => palingref11_add.j1 k l n out b i c) (out ++ addGo n (rd l i :: l.drop (i.toNat + 1)) b) := by
          intro c hc
          have hun : addGo n (rd l i :: l.drop (i.toNat + 1)) b = if rd l i ≥ n ∧ b = false then (if rd l i = n then n :: addGo n (l.drop (i.toNat + 1)) true else n :: rd l i :: addGo n (l.drop (i.toNat + 1)) true) else (if rd l i = n then addGo n (l.drop (i.toNat + 1)) b else rd l i :: addGo n (l.drop (i.toNat + 1)) b) := rfl
          rw [hun]
          cases c with
          | true =>
            have hc' := hc.symm
            rw [Bool.and_eq_true, decide_eq_true_eq] at hc'
            have hn : rd l i ≥ n := hc'.1
            have hb : b = false := by simpa using hc'.2
            have ho' : out.length ≤ i := by rw [hb] at ho; simpa using ho
            rw [if_pos ⟨hn, hb⟩]
            refine Ev.step (fun k => rfl) (Ev.pos (c := out.length < 17592186044416) (by omega) (Ev.bind (Ev.con rfl) (Ev.pos (c := 0 ≤ i) h0 (Ev.pos (c := i < (l.length : Int)) hi ?_))))
            by_cases he : rd l i = n
            · rw [if_pos he]
              refine Ev.pos he ?_
              rw [hw]
              simpa using ih (out ++ [n]) true (by simp; omega)
            · rw [if_neg he]
              refine Ev.neg he (Ev.pos (c := (out ++ [n]).length < 17592186044416) (by simp; omega) ?_)
              rw [hw]
              simpa using ih (out ++ [n] ++ [rd l i]) true (by simp; omega)
          | false =>
            have hnb : ¬ (rd l i ≥ n ∧ b = false) := by
              rintro ⟨a, rfl⟩
              simp [a] at hc
            rw [if_neg hnb]
            refine Ev.step (fun k => rfl) (Ev.pos (c := 0 ≤ i) h0 (Ev.pos (c := i < (l.length : Int)) hi ?_))
            by_cases he : rd l i = n
            · rw [if_pos he]
              refine Ev.pos he ?_
              rw [hw]
              exact ih out b (by clear hc hnb; revert ho; cases b <;> simp <;> omega)
            · rw [if_neg he]
              refine Ev.neg he (Ev.pos (c := out.length < 17592186044416) (by omega) ?_)
              rw [hw]
              simpa using ih (out ++ [rd l i]) b (by clear hc hnb; revert ho; cases b <;> simp <;> omega)
        refine Ev.step (fun k => rfl) (Ev.pos hi (Ev.pos h0 ?_))
        by_cases c : rd l i ≥ n
        · exact Ev.pos c (hj (!b) (by simp [c]))
        · exact Ev.neg c (hj false (by simp [c]))
    simpa using key 0 (by omega) (by omega) [] false (by simp)
def usesL (x : S23) : List Int :=
  let a := if x.f0 = 3 then addL [] x.f2 else []
  let b := if fA x.f0 = true then addL a x.f3 else a
  if fB x.f0 = true then addL b x.f4 else b
theorem usesL_spec (x : S23) : (usesL x).Pairwise (· < ·) ∧ (∀ i, i ∈ usesL x ↔ 0 ≤ i ∧ ((x.f0 = 3 ∧ i = x.f2) ∨ (fA x.f0 = true ∧ i = x.f3) ∨ (fB x.f0 = true ∧ i = x.f4))) ∧ (usesL x).length ≤ 3 := by
  obtain ⟨a, ha⟩ : ∃ a, a = if x.f0 = 3 then addL [] x.f2 else [] := ⟨_, rfl⟩
  obtain ⟨b, hb⟩ : ∃ b, b = if fA x.f0 = true then addL a x.f3 else a := ⟨_, rfl⟩
  have hu : usesL x = if fB x.f0 = true then addL b x.f4 else b := by rw [hb, ha]; rfl
  have a1 : a.Pairwise (· < ·) ∧ (∀ i, i ∈ a ↔ 0 ≤ i ∧ x.f0 = 3 ∧ i = x.f2) ∧ a.length ≤ 1 := by
    rw [ha]
    by_cases h : x.f0 = 3
    · rw [if_pos h]
      obtain ⟨p, q⟩ := addL_spec [] x.f2 List.Pairwise.nil
      refine ⟨p, fun i => ?_, addL_len [] x.f2⟩
      rw [q]; simp only [List.not_mem_nil, false_or]
      constructor
      · rintro ⟨rfl, h0⟩; exact ⟨h0, h, rfl⟩
      · rintro ⟨h0, _, rfl⟩; exact ⟨rfl, h0⟩
    · rw [if_neg h]
      refine ⟨List.Pairwise.nil, fun i => ?_, by simp⟩
      simp [h]
  have b1 : b.Pairwise (· < ·) ∧ (∀ i, i ∈ b ↔ 0 ≤ i ∧ ((x.f0 = 3 ∧ i = x.f2) ∨ (fA x.f0 = true ∧ i = x.f3))) ∧ b.length ≤ 2 := by
    rw [hb]
    by_cases h : fA x.f0 = true
    · rw [if_pos h]
      obtain ⟨p, q⟩ := addL_spec a x.f3 a1.1
      refine ⟨p, fun i => ?_, by have := addL_len a x.f3; omega⟩
      rw [q, a1.2.1]
      constructor
      · rintro (⟨h0, h1⟩ | ⟨rfl, h0⟩)
        · exact ⟨h0, .inl h1⟩
        · exact ⟨h0, .inr ⟨h, rfl⟩⟩
      · rintro ⟨h0, h1 | ⟨_, rfl⟩⟩
        · exact .inl ⟨h0, h1⟩
        · exact .inr ⟨rfl, h0⟩
    · rw [if_neg h]
      refine ⟨a1.1, fun i => ?_, by omega⟩
      rw [a1.2.1]
      simp [h]
  rw [hu]
  by_cases h : fB x.f0 = true
  · rw [if_pos h]
    obtain ⟨p, q⟩ := addL_spec b x.f4 b1.1
    refine ⟨p, fun i => ?_, by have := addL_len b x.f4; omega⟩
    rw [q, b1.2.1]
    constructor
    · rintro (⟨h0, h1⟩ | ⟨rfl, h0⟩)
      · exact ⟨h0, h1.elim .inl (fun h2 => .inr (.inl h2))⟩
      · exact ⟨h0, .inr (.inr ⟨h, rfl⟩)⟩
    · rintro ⟨h0, h1 | h1 | ⟨_, rfl⟩⟩
      · exact .inl ⟨h0, .inl h1⟩
      · exact .inl ⟨h0, .inr h1⟩
      · exact .inr ⟨rfl, h0⟩
  · rw [if_neg h]
    refine ⟨b1.1, fun i => ?_, by omega⟩
    rw [b1.2.1]
    simp [h]
theorem uses_spec (x : S23) : Ev (fun k => palingref11_Uses.f k x.f0 x.f1 x.f2 x.f3 x.f4 x.f5 x.f6) (usesL x) := by
  obtain ⟨_, e2, e3, _, _, _, _⟩ := fld_has x.f0
  have hsz : (fldB x.f0).size ≤ 4611686018427387904 := by have := fld_size x.f0; omega
  have hj : ∀ a : List Int, a.length ≤ 10 → Ev (fun k => palingref11_Uses.j0 k (fldB x.f0) a x.f0 x.f1 x.f2 x.f3 x.f4 x.f5 x.f6) (if fB x.f0 = true then addL (if fA x.f0 = true then addL a x.f3 else a) x.f4 else (if fA x.f0 = true then addL a x.f3 else a)) := by
    intro a ha
    have h1 : ∀ b : List Int, b.length ≤ 20 → Ev (fun k => palingref11_Uses.j1 k (fldB x.f0) b x.f0 x.f1 x.f2 x.f3 x.f4 x.f5 x.f6) (if fB x.f0 = true then addL b x.f4 else b) := by
      intro b hb
      have h3 := has_spec (fldB x.f0) 66 hsz
      rw [e3] at h3
      refine Ev.step (fun k => rfl) (Ev.bind h3 ?_)
      cases fB x.f0 with
      | true => exact Ev.tt (Ev.bind (add_spec b x.f4 (by omega)) (Ev.con (by simp)))
      | false => exact Ev.neg (by simp) (Ev.con (by simp))
    have h2 := has_spec (fldB x.f0) 65 hsz
    rw [e2] at h2
    refine Ev.step (fun k => rfl) (Ev.bind h2 ?_)
    cases fA x.f0 with
    | true => exact Ev.tt (Ev.bind (add_spec a x.f3 (by omega)) (h1 _ (by have := addL_len a x.f3; omega)))
    | false => exact Ev.neg (by simp) (h1 a (by omega))
  refine Ev.congr (f := fun k => if x.f0 = 3 then (palingref11_add.f k [] x.f2).bind fun t => palingref11_Uses.j0 k (fldB x.f0) t x.f0 x.f1 x.f2 x.f3 x.f4 x.f5 x.f6 else palingref11_Uses.j0 k (fldB x.f0) [] x.f0 x.f1 x.f2 x.f3 x.f4 x.f5 x.f6) (fun k => by simp only [palingref11_Uses.f, fields_spec, Option.bind_some]) ?_
  unfold usesL
  by_cases h : x.f0 = 3
  · simp only [if_pos h]
    exact Ev.bind (add_spec [] x.f2 (by simp)) (hj _ (by have := addL_len [] x.f2; simp at this; omega))
  · simp only [if_neg h]
    exact hj [] (by simp)
def defL (x : S23) : Int := if fD x.f0 = true then x.f2 else -1
theorem def_spec (x : S23) : Ev (fun k => palingref11_Def.f k x.f0 x.f1 x.f2 x.f3 x.f4 x.f5 x.f6) (defL x) := by
  obtain ⟨e1, _⟩ := fld_has x.f0
  have hsz : (fldB x.f0).size ≤ 4611686018427387904 := by have := fld_size x.f0; omega
  have h1 := has_spec (fldB x.f0) 68 hsz
  rw [e1] at h1
  refine Ev.congr (f := fun k => (palingref11_Has.f k (fldB x.f0) 68).bind fun t => if t = true then some x.f2 else some (-1)) (fun k => by simp only [palingref11_Def.f, fields_spec, Option.bind_some]) (Ev.bind h1 ?_)
  unfold defL
  cases fD x.f0 with
  | true => exact Ev.con (by simp)
  | false => exact Ev.con (by simp)
end Go.Proofs.YtggfikekggcclaaDoor.PInsTells
