import Derived.Test.YtggfikekggcclaaDoorPInsReadsx0
import Derived.Test.YtggfikekggcclaaDoorPInsReadsx6
import Derived.Test.YtggfikekggcclaaDoorPInsReadshbytes
import Derived.Test.YtggfikekggcclaaDoorPInsReadshcompact
import Derived.Test.YtggfikekggcclaaDoorPInsReadshforms
import Derived.Test.YtggfikekggcclaaDoorPInsReadshinscheck
import Derived.Test.YtggfikekggcclaaDoorPInsReadshinsnext
import Derived.Test.YtggfikekggcclaaDoorPInsReadshinsregs
import Derived.Test.YtggfikekggcclaaDoorPInsReadshinsright
import Derived.Test.YtggfikekggcclaaDoorPInsReadshinsshow
import Derived.Test.YtggfikekggcclaaDoorPInsReadshinsuses
import Derived.Test.YtggfikekggcclaaDoorPInsReadshpure
namespace Go.Proofs.YtggfikekggcclaaDoor.PInsReads
open Go.RowKit Go.Proofs.YtggfikekggcclaaDoorW.PrintWords Go.Proofs.YtggfikekggcclaaDoorW.PrintLast Go.Proofs.YtggfikekggcclaaDoorW.PrintMore
set_option linter.unusedVariables false
set_option linter.unusedSimpArgs false
open Go.Shelf
/-! Package ins in plain words: what the laws of this chapter share. -/
theorem right_out {k op d a b n to_ size regs locks : Int} (h : rightB k op d a b n to_ size regs locks = true) : (0 ≤ k ∧ k < 14) ∧ (fmB 1 k = true → 0 ≤ d ∧ d < regs) ∧ (fmB 2 k = true → (0 ≤ a ∧ a < regs) ∨ a = -1) ∧ (fmB 3 k = true → 0 ≤ b ∧ b < regs) ∧ 0 ≤ to_ ∧ to_ < size := by
  unfold rightB opB at h
  simp only [Bool.and_eq_true, decide_eq_true_eq] at h
  obtain ⟨⟨⟨hk, ⟨h1, h2⟩, h3⟩, _⟩, ⟨⟨_, ht0⟩, ht1⟩⟩ := h
  refine ⟨hk, fun q => ?_, fun q => ?_, fun q => ?_, ht0, ht1⟩
  · rw [q] at h1; simpa [iregB] using h1
  · rw [q] at h2
    simp only [iregB, if_true, Bool.or_eq_true, Bool.and_eq_true, decide_eq_true_eq, beq_iff_eq] at h2
    rcases h2 with h2 | h2
    · exact .inl ⟨h2.1, h2.2⟩
    · exact .inr h2.2
  · rw [q] at h3; simpa [iregB] using h3
theorem iregB_more {n regs : Int} {own bare : Bool} (h : iregB n regs own bare = true) : iregB n (regs + 1) own bare = true := by
  unfold iregB at h ⊢
  cases own with
  | false => exact h
  | true =>
    simp only [if_true, Bool.or_eq_true, Bool.and_eq_true, decide_eq_true_eq] at h ⊢
    rcases h with h | h
    · exact .inl ⟨h.1, by omega⟩
    · exact .inr h
theorem mx_in {a b : Int} : mx a b = max a b := by unfold mx; omega
theorem inumB_more {k n locks : Int} (h0 : 0 ≤ locks) (h1 : locks ≤ 1000) (h : inumB k n locks = true) : inumB k n (locks + 3) = true := by
  have e1 : wrap64 (mx locks 0 - 1) = locks - 1 := by rw [mx_in]; exact (wrap_in (by omega) (by omega)).trans (by omega)
  have e2 : wrap64 (mx (locks + 3) 0 - 1) = locks + 2 := by rw [mx_in]; exact (wrap_in (by omega) (by omega)).trans (by omega)
  unfold inumB at h ⊢
  rw [e1] at h
  rw [e2]
  split
  · rename_i h4
    rw [if_pos h4] at h; exact h
  · rename_i h4
    rw [if_neg h4] at h
    split
    · rename_i h5
      rw [if_pos h5] at h
      simp only [Bool.and_eq_true, decide_eq_true_eq] at h ⊢
      omega
    · rename_i h5
      rw [if_neg h5] at h; exact h
theorem right_more {k op d a b n to_ size regs locks : Int} (h0 : 0 ≤ locks) (h1 : locks ≤ 1000) (h : rightB k op d a b n to_ size regs locks = true) : rightB k op d a b n to_ size (regs + 1) (locks + 3) = true := by
  unfold rightB opB at h ⊢
  simp only [Bool.and_eq_true] at h ⊢
  obtain ⟨⟨⟨hk, ⟨h1', h2⟩, h3⟩, h4⟩, ⟨⟨⟨h5, h6⟩, ht0⟩, ht1⟩⟩ := h
  exact ⟨⟨⟨hk, ⟨iregB_more h1', iregB_more h2⟩, iregB_more h3⟩, h4⟩, ⟨⟨⟨h5, inumB_more h0 h1 h6⟩, ht0⟩, ht1⟩⟩
theorem reads_own (k : Int) (h : fmB 8 k = true) : fmB 1 k = true := by
  by_cases hk : 0 ≤ k ∧ k < 14
  · have : ∀ i : Fin 14, fmB 8 (i.val : Int) = true → fmB 1 (i.val : Int) = true := by decide +kernel
    have := this ⟨k.toNat, by omega⟩
    rw [show (((⟨k.toNat, by omega⟩ : Fin 14).val : Nat) : Int) = k by simp; omega] at this
    exact this h
  · rw [fmB_out 8 (by decide) k hk] at h; exact absurd h (by simp)
theorem uses_ex : ins_Uses.f 3 0 3 1 3 0 0 = some [1, 3] := by
  show some (useRegs (useL 3 3 1 3)) = _
  rw [show useL 3 3 1 3 = [1, 3, 3] by decide +kernel]
  refine congrArg some (rising_ext (useRegs_spec _).1 (by simp) (fun i => ?_))
  rw [(useRegs_spec _).2]
  simp
  omega
theorem next_ex : ins_Next.f 7 0 0 2 0 0 0 1 = some [0, 2] := by
  have e : ins_Next.f 7 0 0 2 0 0 0 1 = some (twoL 2 0) := by
    unfold ins_Next.f
    rw [if_neg (by rw [show fmB 9 7 = false by decide +kernel]; simp), if_neg (by omega), if_pos rfl, wrap_in (by omega) (by omega)]
    rfl
  rw [e]
  refine congrArg some (rising_ext (twoL_spec _ _).1 (by simp) (fun i => ?_))
  rw [(twoL_spec _ _).2]
  simp
  omega
set_option maxRecDepth 100000 in
theorem awakeNow : palinglaw11_awake.f 20 = some true := by
  unfold palinglaw11_awake.f
  simp only [Option.bind_some, show rd_T23 [(⟨4, 0, 2, 0, 0, 17, 0⟩ : S23), (⟨7, 0, 0, 2, 0, 0, 0⟩ : S23), (⟨13, 0, 0, 0, 0, 0, 0⟩ : S23)] 1 = ⟨7, 0, 0, 2, 0, 0, 0⟩ from rfl]
  rw [uses_ex, next_ex]
  decide +kernel
theorem awake_ev : Ev (fun k => palinglaw11_awake.f k) true := Ev.of palinglaw11_awake.mono awakeNow
theorem check_at {l : List S23} {regs locks : Int} (h : icheckB l regs locks = true) (i : Int) (h0 : 0 ≤ i) (h1 : i < l.length) : rightS (rd_T23 l i) l.length regs locks = true ∧ ((rd_T23 l i).f0 ≠ 6 → fmB 9 (rd_T23 l i).f0 = false → i + 1 < l.length) := by
  unfold icheckB at h
  simp only [Bool.and_eq_true, List.all_eq_true] at h
  obtain ⟨⟨_, hall⟩, hlast⟩ := h
  have hi : i.toNat < l.length := by omega
  have hx : rd_T23 l i = l[i.toNat] := by unfold rd_T23; rw [List.getD_eq_getElem?_getD, List.getElem?_eq_getElem hi]; rfl
  refine ⟨hall _ (by rw [hx]; exact List.getElem_mem hi), fun h6 h9 => ?_⟩
  by_cases he : i.toNat = l.length - 1
  · rw [← he] at hlast
    have hx' : rd_T23 l i = l.getD i.toNat z23 := rfl
    rw [← hx', h9] at hlast
    simp at hlast
    exact absurd hlast h6
  · omega
theorem wf64 {n : Int} (h : (Lit.int .i64 n).wf = true) : inI64 n := by
  simp [Lit.wf, IntKind.min, IntKind.max, IntKind.signed, IntKind.bits] at h
  exact ⟨by omega, by omega⟩
theorem rd_memI {l : List Int} {j : Int} (h0 : 0 ≤ j) (h1 : j < l.length) : rd l j ∈ l := by
  have hi : j.toNat < l.length := by omega
  have hx : rd l j = l[j.toNat] := by unfold rd; rw [List.getD_eq_getElem?_getD, List.getElem?_eq_getElem hi]; rfl
  rw [hx]; exact List.getElem_mem hi
/-- where an instruction may go to -/
def nextV (y : S23) (i : Int) : List Int := if ¬ (0 ≤ y.f0 ∧ y.f0 < 14) ∨ fmB 9 y.f0 = true then [] else if y.f0 = 6 then [y.f6] else if y.f0 = 7 then twoL (i + 1) y.f6 else [i + 1]
theorem nextV_f (y : S23) (i : Int) (h : wrap64 (i + 1) = i + 1) : ins_Next.f y.f0 y.f1 y.f2 y.f3 y.f4 y.f5 y.f6 i = some (nextV y i) := by
  unfold ins_Next.f nextV
  rw [h]
theorem nextV_mem {y : S23} {i j : Int} (h : j ∈ nextV y i) : (y.f0 = 6 ∧ j = y.f6) ∨ (fmB 9 y.f0 = false ∧ y.f0 ≠ 6 ∧ j = i + 1) ∨ (y.f0 = 7 ∧ j = y.f6) := by
  unfold nextV at h
  split at h
  · simp at h
  · rename_i h9
    have h9' : fmB 9 y.f0 = false := by
      cases hh : fmB 9 y.f0 with
      | false => rfl
      | true => exact absurd (.inr hh) h9
    split at h
    · rename_i h6; simp at h; exact .inl ⟨h6, h⟩
    · rename_i h6
      split at h
      · rename_i h7
        rw [(twoL_spec _ _).2] at h
        rcases h with h | h
        · exact .inr (.inl ⟨h9', h6, h⟩)
        · exact .inr (.inr ⟨h7, h⟩)
      · simp at h; exact .inr (.inl ⟨h9', h6, h⟩)
theorem nextV_len (y : S23) (i : Int) : (nextV y i).length ≤ 2 := by
  unfold nextV
  split
  · simp
  · split
    · simp
    · split
      · unfold twoL
        refine Nat.le_trans (compact_len _) ?_
        rw [List.length_mergeSort]
        simp
      · simp
theorem toList_nil {s : ByteArray} (h : s.toList = []) : s.size = 0 := by
  have := congrArg List.length h
  rw [toList_data] at this
  exact (Array.length_toList).symm.trans this
theorem show_ne (k op d a b n to_ : Int) (hk : 0 ≤ k ∧ k < 14) : ¬ (showB k op d a b n to_).toList = [] := by
  intro h
  have h1 := toList_nil h
  have h2 : (fmW k).size ≠ 0 := by
    have : ∀ i : Fin 14, (fmW (i.val : Int)).size ≠ 0 := by decide +kernel
    have := this ⟨k.toNat, by omega⟩
    rwa [show (((⟨k.toNat, by omega⟩ : Fin 14).val : Nat) : Int) = k by simp; omega] at this
  have h3 : (showB k op d a b n to_).size = (Lib.join ((showParts k op d a b n to_).map (·.data.toList)) [32]).length := List.size_toArray
  rw [h3] at h1
  unfold showParts at h1
  simp only [List.cons_append, List.nil_append, List.map_cons, Lib.join_cons, List.length_append] at h1
  have h4 : (fmW k).data.toList.length = (fmW k).size := Array.length_toList
  omega
end Go.Proofs.YtggfikekggcclaaDoor.PInsReads
