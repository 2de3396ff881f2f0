import Derived.Test.YtggfikekggcclaaDoorPInsChecksx0
import Derived.Test.YtggfikekggcclaaDoorPInsCheckshcalc
import Derived.Test.YtggfikekggcclaaDoorPInsCheckshdigits01
import Derived.Test.YtggfikekggcclaaDoorPInsCheckshinsshow
import Derived.Test.YtggfikekggcclaaDoorPInsCheckshpure
import Derived.Test.YtggfikekggcclaaDoorPInsCheckshshowref
import Derived.Test.YtggfikekggcclaaDoorPInsChecksx9
import Derived.Test.YtggfikekggcclaaDoorPInsCheckshinstext
import Derived.Test.YtggfikekggcclaaDoorPInsCheckshshowparts
import Derived.Test.YtggfikekggcclaaDoorPInsCheckshforms
import Derived.Test.YtggfikekggcclaaDoorPInsCheckshref11
import Derived.Test.YtggfikekggcclaaDoorPInsChecksx5
import Derived.Test.YtggfikekggcclaaDoorPInsCheckshbytes
import Derived.Test.YtggfikekggcclaaDoorPInsCheckshcompact
import Derived.Test.YtggfikekggcclaaDoorPInsCheckshinscheck
import Derived.Test.YtggfikekggcclaaDoorPInsCheckshinsnext
import Derived.Test.YtggfikekggcclaaDoorPInsCheckshinsregs
import Derived.Test.YtggfikekggcclaaDoorPInsCheckshinsright
import Derived.Test.YtggfikekggcclaaDoorPInsCheckshinsuses
import Derived.Test.YtggfikekggcclaaDoorPInsChecksx6
import Derived.Test.YtggfikekggcclaaDoorPInsChecksx7
namespace Go.Proofs.YtggfikekggcclaaDoor.PInsChecks
open Go.RowKit Go.Proofs.YtggfikekggcclaaDoorW.PrintWords Go.Proofs.YtggfikekggcclaaDoorW.PrintLast Go.Proofs.YtggfikekggcclaaDoorW.PrintMore
set_option linter.unusedVariables false
set_option linter.unusedSimpArgs false
/-! The reference's digits and texts are the program's. -/
theorem digref_spec (n : Int) (h : -9223372036854775808 ≤ n ∧ n ≤ 9223372036854775807) : Ev (fun _ : Nat => palingref01_Digits.f n) (digB n) := Ev.con (if_pos h)
theorem showref_spec (k0 op d a b n to_ : Int) (hd : inI64 d) (ha : inI64 a) (hb : inI64 b) (hn : inI64 n) (ht : inI64 to_) : Ev (fun _ : Nat => palingref11_Show.f k0 op d a b n to_) (showB k0 op d a b n to_) := Ev.con (if_pos ⟨hd, ha, hb, hn, ht⟩)
end Go.Proofs.YtggfikekggcclaaDoor.PInsChecks

namespace Go.Proofs.YtggfikekggcclaaDoor.PInsChecks
open Go.RowKit Go.Proofs.YtggfikekggcclaaDoorW.PrintWords Go.Proofs.YtggfikekggcclaaDoorW.PrintLast Go.Proofs.YtggfikekggcclaaDoorW.PrintMore
set_option linter.unusedVariables false
set_option linter.unusedSimpArgs false
open Go.Shelf
/-! A code's text: the program's and the reference's. -/
def wfI (x : S23) : Prop := inI64 x.f2 ∧ inI64 x.f3 ∧ inI64 x.f4 ∧ inI64 x.f5 ∧ inI64 x.f6
def textL : List S23 → Int → List UInt8
  | [], _ => []
  | x :: xs, i => lineL i (showS x) ++ textL xs (i + 1)
theorem showS_size {x : S23} (h : wfI x) : (showS x).size ≤ 1000 := show_size _ _ _ _ _ _ _ h.1 h.2.1 h.2.2.1 h.2.2.2.1 h.2.2.2.2
theorem line_len {x : S23} (h : wfI x) {i : Int} (hi : inI64 i) : (lineL i (showS x)).length ≤ 1023 := by
  have h1 := Lib.itoa_length_le i hi.1 hi.2
  have h2 := showS_size h
  have h3 : (showS x).data.toList.length = (showS x).size := Array.length_toList
  simp only [lineL, List.length_append, List.length_cons, List.length_nil]
  omega
theorem textGo_spec (k : Nat) : ∀ (xs : List S23) (i : Int) (acc : List UInt8), (∀ x ∈ xs, wfI x) → 0 ≤ i → i + xs.length ≤ 100000 → acc.length + 1023 * xs.length ≤ 1000000000 → textGo (k + 8) xs i acc = some (acc ++ textL xs i)
  | [], i, acc, _, _, _, _ => by simp [textGo, textL]
  | x :: xs, i, acc, hw, h0, h1, h2 => by
    have hx := hw x (by simp)
    have hl := line_len hx (i := i) ⟨by omega, by simp only [List.length_cons] at h1; omega⟩
    simp only [List.length_cons] at h1 h2
    rw [textGo, show_f _ _ _ _ _ _ _ k hx.1 hx.2.1 hx.2.2.1 hx.2.2.2.1 hx.2.2.2.2, Option.bind_some]
    change (if acc.length + (lineL i (showS x)).length ≤ 140737488355328 then textGo (k + 8) xs (i + 1) (acc ++ lineL i (showS x)) else none) = _
    rw [if_pos (show acc.length + (lineL i (showS x)).length ≤ 140737488355328 by omega)]
    rw [textGo_spec k xs (i + 1) (acc ++ lineL i (showS x)) (fun y hy => hw y (by simp [hy])) (by omega) (by omega) (by rw [List.length_append]; omega)]
    rw [textL, List.append_assoc]
theorem text_f (k : Nat) (l : List S23) (hw : ∀ x ∈ l, wfI x) (hl : l.length ≤ 5000) : ins_Text.f (k + 8) l = some ⟨(textL l 0).toArray⟩ := by
  unfold ins_Text.f
  rw [if_pos (by omega), textGo_spec k l 0 [] hw (by omega) (by omega) (by simp; omega), Option.bind_some, List.nil_append]
theorem textref_spec (l : List S23) (hw : ∀ x ∈ l, wfI x) (hl : l.length ≤ 5000) : Ev (fun k => palingref11_Text.f k l) ⟨(textL l 0).toArray⟩ := by
  have key : ∀ i : Int, 0 ≤ i → i ≤ l.length → ∀ acc : ByteArray, acc.size ≤ 1023 * i.toNat → Ev (fun k => palingref11_Text.l0 k l acc i) ⟨(acc.data.toList ++ textL (l.drop i.toNat) i).toArray⟩ := by
    refine up_ind ?_ ?_
    · intro acc ha
      refine Ev.step (fun k => rfl) (Ev.neg (by omega) (Ev.con (congrArg some (ba_ext ?_))))
      rw [List.drop_eq_nil_of_le (by omega)]
      simp [textL]
    · intro i h0 h1 ih acc ha
      have hm : rd_T23 l i ∈ l := by
        have hi : i.toNat < l.length := by omega
        have hx : rd_T23 l i = l[i.toNat] := by unfold rd_T23; rw [List.getD_eq_getElem?_getD, List.getElem?_eq_getElem hi]; rfl
        rw [hx]; exact List.getElem_mem hi
      have hx := hw _ hm
      have hi64 : inI64 i := ⟨by omega, by omega⟩
      have hd := getD_drop l z23 i.toNat (by omega)
      have hz := dig_size hi64
      have hs := showS_size hx
      have hs2 : (showB (rd_T23 l i).f0 (rd_T23 l i).f1 (rd_T23 l i).f2 (rd_T23 l i).f3 (rd_T23 l i).f4 (rd_T23 l i).f5 (rd_T23 l i).f6).size ≤ 1000 := hs
      have hsp : ∀ u : ByteArray, (u ++ (⟨#[32]⟩ : ByteArray)).size = u.size + 1 := fun u => by rw [ByteArray.size_append]; rfl
      have hnl : ∀ u : ByteArray, (u ++ (⟨#[10]⟩ : ByteArray)).size = u.size + 1 := fun u => by rw [ByteArray.size_append]; rfl
      refine Ev.step (fun k => rfl) (Ev.pos h1 (Ev.bind (digref_spec i hi64) (Ev.pos (by omega) (Ev.pos h0 (Ev.bind (showref_spec _ _ _ _ _ _ _ hx.1 hx.2.1 hx.2.2.1 hx.2.2.2.1 hx.2.2.2.2) ?_)))))
      change Ev (fun k => if (digB i ++ (⟨#[32]⟩ : ByteArray)).size + (showS (rd_T23 l i)).size ≤ 9223372036854775807 then _ else none) _
      refine Ev.pos (by rw [hsp]; omega) (Ev.pos (by rw [ByteArray.size_append, hsp]; omega) (Ev.pos (by rw [hnl, ByteArray.size_append, hsp]; omega) ?_))
      rw [wrap_up h0 h1 (by omega)]
      have h := ih (acc ++ (((digB i ++ (⟨#[32]⟩ : ByteArray)) ++ showS (rd_T23 l i)) ++ (⟨#[10]⟩ : ByteArray))) (by rw [ByteArray.size_append, hnl, ByteArray.size_append, hsp]; omega)
      rw [show (i + 1).toNat = i.toNat + 1 by omega] at h
      rw [hd, show l.getD i.toNat z23 = rd_T23 l i from rfl, textL]
      have e : (acc ++ (((digB i ++ (⟨#[32]⟩ : ByteArray)) ++ showS (rd_T23 l i)) ++ (⟨#[10]⟩ : ByteArray))).data.toList = acc.data.toList ++ lineL i (showS (rd_T23 l i)) := by
        simp [ByteArray.data_append, lineL, digB]
      rw [e, List.append_assoc] at h
      exact h
  have h := key 0 (by omega) (by omega) ⟨#[]⟩ (by show (0 : Nat) ≤ _; omega)
  have h' : Ev (fun k => palingref11_Text.l0 k l ⟨#[]⟩ 0) ⟨(textL l 0).toArray⟩ := by simpa using h
  exact h'
end Go.Proofs.YtggfikekggcclaaDoor.PInsChecks

namespace Go.Proofs.YtggfikekggcclaaDoor.PInsChecks
open Go.RowKit Go.Proofs.YtggfikekggcclaaDoorW.PrintWords Go.Proofs.YtggfikekggcclaaDoorW.PrintLast Go.Proofs.YtggfikekggcclaaDoorW.PrintMore
set_option linter.unusedVariables false
set_option linter.unusedSimpArgs false
open Go.Shelf
/-! The program's table of forms is the reference's. -/
theorem form_tab (k : Int) : fD k = fmB 1 k ∧ fA k = fmB 2 k ∧ fB k = fmB 3 k ∧ fO k = fmB 4 k ∧ fN k = fmB 5 k ∧ fT k = fmB 6 k ∧ (k == 4 || k == 5) = fmB 7 k ∧ (k == 12 || k == 13) = fmB 9 k := by
  by_cases hk : 0 ≤ k ∧ k < 14
  · have : ∀ i : Fin 14, fD (i.val : Int) = fmB 1 i.val ∧ fA (i.val : Int) = fmB 2 i.val ∧ fB (i.val : Int) = fmB 3 i.val ∧ fO (i.val : Int) = fmB 4 i.val ∧ fN (i.val : Int) = fmB 5 i.val ∧ fT (i.val : Int) = fmB 6 i.val ∧ ((i.val : Int) == 4 || (i.val : Int) == 5) = fmB 7 i.val ∧ ((i.val : Int) == 12 || (i.val : Int) == 13) = fmB 9 i.val := by decide +kernel
    have := this ⟨k.toNat, by omega⟩
    simp only [show ((k.toNat : Nat) : Int) = k by omega] at this
    exact this
  · rw [fmB_out 1 (by decide) k hk, fmB_out 2 (by decide) k hk, fmB_out 3 (by decide) k hk, fmB_out 4 (by decide) k hk, fmB_out 5 (by decide) k hk, fmB_out 6 (by decide) k hk, fmB_out 7 (by decide) k hk, fmB_out 9 (by decide) k hk]
    have h1 : ∀ c : Int, 0 ≤ c → c < 14 → (k == c) = false := fun c h0 h1 => by simp; omega
    simp [fD, fA, fB, fO, fN, fT, h1]
theorem form_pick (k : Int) : fmB 8 k = (k == 3) := by
  by_cases hk : 0 ≤ k ∧ k < 14
  · have : ∀ i : Fin 14, fmB 8 (i.val : Int) = ((i.val : Int) == 3) := by decide +kernel
    have := this ⟨k.toNat, by omega⟩
    simp only [show ((k.toNat : Nat) : Int) = k by omega] at this
    exact this
  · rw [fmB_out 8 (by decide) k hk]
    simp; omega
end Go.Proofs.YtggfikekggcclaaDoor.PInsChecks

namespace Go.Proofs.YtggfikekggcclaaDoor.PInsChecks
open Go.RowKit Go.Proofs.YtggfikekggcclaaDoorW.PrintWords Go.Proofs.YtggfikekggcclaaDoorW.PrintLast Go.Proofs.YtggfikekggcclaaDoorW.PrintMore
set_option linter.unusedVariables false
set_option linter.unusedSimpArgs false
open Go.Shelf
/-! Package ins in plain words: what the laws of this chapter share. -/
theorem right_out {k op d a b n to_ size regs locks : Int} (h : rightB k op d a b n to_ size regs locks = true) : (0 ≤ k ∧ k < 14) ∧ (fmB 1 k = true → 0 ≤ d ∧ d < regs) ∧ (fmB 2 k = true → (0 ≤ a ∧ a < regs) ∨ a = -1) ∧ (fmB 3 k = true → 0 ≤ b ∧ b < regs) ∧ 0 ≤ to_ ∧ to_ < size := by
  unfold rightB opB at h
  simp only [Bool.and_eq_true, decide_eq_true_eq] at h
  obtain ⟨⟨⟨hk, ⟨h1, h2⟩, h3⟩, _⟩, ⟨⟨_, ht0⟩, ht1⟩⟩ := h
  refine ⟨hk, fun q => ?_, fun q => ?_, fun q => ?_, ht0, ht1⟩
  · rw [q] at h1; simpa [iregB] using h1
  · rw [q] at h2
    simp only [iregB, if_true, Bool.or_eq_true, Bool.and_eq_true, decide_eq_true_eq, beq_iff_eq] at h2
    rcases h2 with h2 | h2
    · exact .inl ⟨h2.1, h2.2⟩
    · exact .inr h2.2
  · rw [q] at h3; simpa [iregB] using h3
theorem iregB_more {n regs : Int} {own bare : Bool} (h : iregB n regs own bare = true) : iregB n (regs + 1) own bare = true := by
  unfold iregB at h ⊢
  cases own with
  | false => exact h
  | true =>
    simp only [if_true, Bool.or_eq_true, Bool.and_eq_true, decide_eq_true_eq] at h ⊢
    rcases h with h | h
    · exact .inl ⟨h.1, by omega⟩
    · exact .inr h
theorem mx_in {a b : Int} : mx a b = max a b := by unfold mx; omega
theorem inumB_more {k n locks : Int} (h0 : 0 ≤ locks) (h1 : locks ≤ 1000) (h : inumB k n locks = true) : inumB k n (locks + 3) = true := by
  have e1 : wrap64 (mx locks 0 - 1) = locks - 1 := by rw [mx_in]; exact (wrap_in (by omega) (by omega)).trans (by omega)
  have e2 : wrap64 (mx (locks + 3) 0 - 1) = locks + 2 := by rw [mx_in]; exact (wrap_in (by omega) (by omega)).trans (by omega)
  unfold inumB at h ⊢
  rw [e1] at h
  rw [e2]
  split
  · rename_i h4
    rw [if_pos h4] at h; exact h
  · rename_i h4
    rw [if_neg h4] at h
    split
    · rename_i h5
      rw [if_pos h5] at h
      simp only [Bool.and_eq_true, decide_eq_true_eq] at h ⊢
      omega
    · rename_i h5
      rw [if_neg h5] at h; exact h
theorem right_more {k op d a b n to_ size regs locks : Int} (h0 : 0 ≤ locks) (h1 : locks ≤ 1000) (h : rightB k op d a b n to_ size regs locks = true) : rightB k op d a b n to_ size (regs + 1) (locks + 3) = true := by
  unfold rightB opB at h ⊢
  simp only [Bool.and_eq_true] at h ⊢
  obtain ⟨⟨⟨hk, ⟨h1', h2⟩, h3⟩, h4⟩, ⟨⟨⟨h5, h6⟩, ht0⟩, ht1⟩⟩ := h
  exact ⟨⟨⟨hk, ⟨iregB_more h1', iregB_more h2⟩, iregB_more h3⟩, h4⟩, ⟨⟨⟨h5, inumB_more h0 h1 h6⟩, ht0⟩, ht1⟩⟩
theorem reads_own (k : Int) (h : fmB 8 k = true) : fmB 1 k = true := by
  by_cases hk : 0 ≤ k ∧ k < 14
  · have : ∀ i : Fin 14, fmB 8 (i.val : Int) = true → fmB 1 (i.val : Int) = true := by decide +kernel
    have := this ⟨k.toNat, by omega⟩
    rw [show (((⟨k.toNat, by omega⟩ : Fin 14).val : Nat) : Int) = k by simp; omega] at this
    exact this h
  · rw [fmB_out 8 (by decide) k hk] at h; exact absurd h (by simp)
theorem uses_ex : ins_Uses.f 3 0 3 1 3 0 0 = some [1, 3] := by
  show some (useRegs (useL 3 3 1 3)) = _
  rw [show useL 3 3 1 3 = [1, 3, 3] by decide +kernel]
  refine congrArg some (rising_ext (useRegs_spec _).1 (by simp) (fun i => ?_))
  rw [(useRegs_spec _).2]
  simp
  omega
theorem next_ex : ins_Next.f 7 0 0 2 0 0 0 1 = some [0, 2] := by
  have e : ins_Next.f 7 0 0 2 0 0 0 1 = some (twoL 2 0) := by
    unfold ins_Next.f
    rw [if_neg (by rw [show fmB 9 7 = false by decide +kernel]; simp), if_neg (by omega), if_pos rfl, wrap_in (by omega) (by omega)]
    rfl
  rw [e]
  refine congrArg some (rising_ext (twoL_spec _ _).1 (by simp) (fun i => ?_))
  rw [(twoL_spec _ _).2]
  simp
  omega
set_option maxRecDepth 100000 in
theorem awakeNow : palinglaw11_awake.f 20 = some true := by
  unfold palinglaw11_awake.f
  simp only [Option.bind_some, show rd_T23 [(⟨4, 0, 2, 0, 0, 17, 0⟩ : S23), (⟨7, 0, 0, 2, 0, 0, 0⟩ : S23), (⟨13, 0, 0, 0, 0, 0, 0⟩ : S23)] 1 = ⟨7, 0, 0, 2, 0, 0, 0⟩ from rfl]
  rw [uses_ex, next_ex]
  decide +kernel
theorem awake_ev : Ev (fun k => palinglaw11_awake.f k) true := Ev.of palinglaw11_awake.mono awakeNow
theorem check_at {l : List S23} {regs locks : Int} (h : icheckB l regs locks = true) (i : Int) (h0 : 0 ≤ i) (h1 : i < l.length) : rightS (rd_T23 l i) l.length regs locks = true ∧ ((rd_T23 l i).f0 ≠ 6 → fmB 9 (rd_T23 l i).f0 = false → i + 1 < l.length) := by
  unfold icheckB at h
  simp only [Bool.and_eq_true, List.all_eq_true] at h
  obtain ⟨⟨_, hall⟩, hlast⟩ := h
  have hi : i.toNat < l.length := by omega
  have hx : rd_T23 l i = l[i.toNat] := by unfold rd_T23; rw [List.getD_eq_getElem?_getD, List.getElem?_eq_getElem hi]; rfl
  refine ⟨hall _ (by rw [hx]; exact List.getElem_mem hi), fun h6 h9 => ?_⟩
  by_cases he : i.toNat = l.length - 1
  · rw [← he] at hlast
    have hx' : rd_T23 l i = l.getD i.toNat z23 := rfl
    rw [← hx', h9] at hlast
    simp at hlast
    exact absurd hlast h6
  · omega
theorem wf64 {n : Int} (h : (Lit.int .i64 n).wf = true) : inI64 n := by
  simp [Lit.wf, IntKind.min, IntKind.max, IntKind.signed, IntKind.bits] at h
  exact ⟨by omega, by omega⟩
theorem rd_memI {l : List Int} {j : Int} (h0 : 0 ≤ j) (h1 : j < l.length) : rd l j ∈ l := by
  have hi : j.toNat < l.length := by omega
  have hx : rd l j = l[j.toNat] := by unfold rd; rw [List.getD_eq_getElem?_getD, List.getElem?_eq_getElem hi]; rfl
  rw [hx]; exact List.getElem_mem hi
/-- where an instruction may go to -/
def nextV (y : S23) (i : Int) : List Int := if ¬ (0 ≤ y.f0 ∧ y.f0 < 14) ∨ fmB 9 y.f0 = true then [] else if y.f0 = 6 then [y.f6] else if y.f0 = 7 then twoL (i + 1) y.f6 else [i + 1]
theorem nextV_f (y : S23) (i : Int) (h : wrap64 (i + 1) = i + 1) : ins_Next.f y.f0 y.f1 y.f2 y.f3 y.f4 y.f5 y.f6 i = some (nextV y i) := by
  unfold ins_Next.f nextV
  rw [h]
theorem nextV_mem {y : S23} {i j : Int} (h : j ∈ nextV y i) : (y.f0 = 6 ∧ j = y.f6) ∨ (fmB 9 y.f0 = false ∧ y.f0 ≠ 6 ∧ j = i + 1) ∨ (y.f0 = 7 ∧ j = y.f6) := by
  unfold nextV at h
  split at h
  · simp at h
  · rename_i h9
    have h9' : fmB 9 y.f0 = false := by
      cases hh : fmB 9 y.f0 with
      | false => rfl
      | true => exact absurd (.inr hh) h9
    split at h
    · rename_i h6; simp at h; exact .inl ⟨h6, h⟩
    · rename_i h6
      split at h
      · rename_i h7
        rw [(twoL_spec _ _).2] at h
        rcases h with h | h
        · exact .inr (.inl ⟨h9', h6, h⟩)
        · exact .inr (.inr ⟨h7, h⟩)
      · simp at h; exact .inr (.inl ⟨h9', h6, h⟩)
theorem nextV_len (y : S23) (i : Int) : (nextV y i).length ≤ 2 := by
  unfold nextV
  split
  · simp
  · split
    · simp
    · split
      · unfold twoL
        refine Nat.le_trans (compact_len _) ?_
        rw [List.length_mergeSort]
        simp
      · simp
theorem toList_nil {s : ByteArray} (h : s.toList = []) : s.size = 0 := by
  have := congrArg List.length h
  rw [toList_data] at this
  exact (Array.length_toList).symm.trans this
theorem show_ne (k op d a b n to_ : Int) (hk : 0 ≤ k ∧ k < 14) : ¬ (showB k op d a b n to_).toList = [] := by
  intro h
  have h1 := toList_nil h
  have h2 : (fmW k).size ≠ 0 := by
    have : ∀ i : Fin 14, (fmW (i.val : Int)).size ≠ 0 := by decide +kernel
    have := this ⟨k.toNat, by omega⟩
    rwa [show (((⟨k.toNat, by omega⟩ : Fin 14).val : Nat) : Int) = k by simp; omega] at this
  have h3 : (showB k op d a b n to_).size = (Lib.join ((showParts k op d a b n to_).map (·.data.toList)) [32]).length := List.size_toArray
  rw [h3] at h1
  unfold showParts at h1
  simp only [List.cons_append, List.nil_append, List.map_cons, Lib.join_cons, List.length_append] at h1
  have h4 : (fmW k).data.toList.length = (fmW k).size := Array.length_toList
  omega
end Go.Proofs.YtggfikekggcclaaDoor.PInsChecks

namespace Go.Proofs.YtggfikekggcclaaDoor.PInsChecks
open Go.RowKit Go.Proofs.YtggfikekggcclaaDoorW.PrintWords Go.Proofs.YtggfikekggcclaaDoorW.PrintLast Go.Proofs.YtggfikekggcclaaDoorW.PrintMore
set_option linter.unusedVariables false
set_option linter.unusedSimpArgs false
/-! palingref11.Check, in plain words. -/
def regB (a0 a1 : Int) (a2 a3 : Bool) : Bool := if a2 = true then (decide (a0 ≥ 0) && decide (a0 < a1) || (a3 && a0 == -1)) else a0 == 0
theorem reg_spec (a0 a1 : Int) (a2 a3 : Bool) : palingref11_reg.f a0 a1 a2 a3 = some (regB a0 a1 a2 a3) := by
  unfold palingref11_reg.f regB
  by_cases h0 : a0 ≥ 0 <;> by_cases h1 : a0 < a1 <;> cases a2 <;> cases a3 <;> simp [h0, h1]
  all_goals omega
def numB (kind n locks : Int) : Bool := if kind = 4 ∨ kind = 5 then decide (n ≥ 0) && decide (n ≤ 65535) else if kind = 9 ∨ kind = 10 then decide (n ≥ 0) && decide (n < locks) else if kind = 12 then n == 1 || n == 2 else true
theorem number_spec (a0 a1 a2 a3 a4 a5 a6 x : Int) : ∀ k, 2 ≤ k → palingref11_number.f k a0 a1 a2 a3 a4 a5 a6 x = some (numB a0 a5 x) := by
  intro k hk
  obtain ⟨k, rfl⟩ : ∃ m, k = m + 2 := ⟨k - 2, by omega⟩
  simp only [palingref11_number.f, palingref11_number.j0, palingref11_number.j1, numB]
  by_cases h4 : a0 = 4
  · subst h4; by_cases h : a5 ≥ 0 <;> simp [h]
  · by_cases h5 : a0 = 5
    · subst h5; by_cases h : a5 ≥ 0 <;> simp [h]
    · by_cases h9 : a0 = 9
      · subst h9; by_cases h : a5 ≥ 0 <;> simp [h]
      · by_cases h10 : a0 = 10
        · subst h10; by_cases h : a5 ≥ 0 <;> simp [h]
        · by_cases h12 : a0 = 12
          · subst h12; by_cases h : a5 = 1 <;> simp [h]
          · simp [h4, h5, h9, h10, h12]
def oneB (x : S23) (size regs locks : Int) : Bool :=
  decide (0 ≤ x.f0 ∧ x.f0 < 14) && (regB x.f2 regs (fD x.f0) false && (regB x.f3 regs (fA x.f0) (x.f0 == 4 || x.f0 == 5) && (regB x.f4 regs (fB x.f0) false &&
    ((fO x.f0 || x.f1 == 0) && (decide (0 ≤ x.f1) && (decide (x.f1 ≤ 18) && ((fN x.f0 || x.f5 == 0) && ((fT x.f0 || x.f6 == 0) && (numB x.f0 x.f5 locks && (decide (0 ≤ x.f6) && decide (x.f6 < size)))))))))))
set_option maxHeartbeats 4000000 in
theorem one_spec (x : S23) (size regs locks : Int) : Ev (fun k => palingref11_one.f k x.f0 x.f1 x.f2 x.f3 x.f4 x.f5 x.f6 size regs locks) (oneB x size regs locks) := by
  obtain ⟨e1, e2, e3, e4, e5, e6, e7⟩ := fld_has x.f0
  have hsz : (fldB x.f0).size ≤ 4611686018427387904 := by have := fld_size x.f0; omega
  obtain ⟨k1, g1⟩ := has_spec (fldB x.f0) 68 hsz
  obtain ⟨k2, g2⟩ := has_spec (fldB x.f0) 65 hsz
  obtain ⟨k3, g3⟩ := has_spec (fldB x.f0) 66 hsz
  obtain ⟨k4, g4⟩ := has_spec (fldB x.f0) 79 hsz
  obtain ⟨k5, g5⟩ := has_spec (fldB x.f0) 78 hsz
  obtain ⟨k6, g6⟩ := has_spec (fldB x.f0) 84 hsz
  rw [e1] at g1; rw [e2] at g2; rw [e3] at g3; rw [e4] at g4; rw [e5] at g5; rw [e6] at g6
  refine ⟨k1 + k2 + k3 + k4 + k5 + k6 + 5, fun k hk => ?_⟩
  obtain ⟨k, rfl⟩ : ∃ m, k = m + 2 := ⟨k - 2, by omega⟩
  have q1 := g1 (k + 1) (by omega)
  have q2 := g2 (k + 1) (by omega)
  have q3 := g3 (k + 1) (by omega)
  have q4 := g4 k (by omega)
  have q5 := g5 k (by omega)
  have q6 := g6 k (by omega)
  have q7 := number_spec x.f0 x.f1 x.f2 x.f3 x.f4 x.f5 x.f6 locks k (by omega)
  have hno : ∀ b : Bool, (if x.f0 = 4 then palingref11_one.j0 (k + 2) size regs locks (fldB x.f0) true x.f0 x.f1 x.f2 x.f3 x.f4 x.f5 x.f6 else palingref11_one.j0 (k + 2) size regs locks (fldB x.f0) (x.f0 == 5) x.f0 x.f1 x.f2 x.f3 x.f4 x.f5 x.f6) = palingref11_one.j0 (k + 2) size regs locks (fldB x.f0) (x.f0 == 4 || x.f0 == 5) x.f0 x.f1 x.f2 x.f3 x.f4 x.f5 x.f6 := fun _ => by
    by_cases h : x.f0 = 4
    · simp [h]
    · rw [if_neg h, show (x.f0 == 4) = false by simpa using h, Bool.false_or]
  simp only [palingref11_one.f, fields_spec, Option.bind_some]
  rw [hno true]
  by_cases hk : 0 ≤ x.f0 ∧ x.f0 < 14
  · have hne : ¬ ((fldB x.f0).toList = []) := by rw [toList_data, e7]; simpa using hk
    simp only [palingref11_one.j0, palingref11_one.j1, if_neg hne, q1, q2, q3, q4, q5, q6, q7, reg_spec, Option.bind_some, oneB, hk, decide_true, Bool.true_and, and_self]
    generalize regB x.f2 regs (fD x.f0) false = b1
    generalize regB x.f3 regs (fA x.f0) (x.f0 == 4 || x.f0 == 5) = b2
    generalize regB x.f4 regs (fB x.f0) false = b3
    generalize numB x.f0 x.f5 locks = b4
    generalize fO x.f0 = b5
    generalize fN x.f0 = b6
    generalize fT x.f0 = b7
    cases b1 <;> cases b2 <;> cases b3 <;> simp only [Bool.false_eq_true, if_false, if_true, Bool.not_true, Bool.not_false, Bool.false_and, Bool.true_and, Bool.and_false]
    have d1 : ∀ z : Int, (z == 0) = decide (z = 0) := fun z => rfl
    cases b4 <;> cases b5 <;> cases b6 <;> cases b7 <;> simp only [Bool.false_eq_true, if_false, if_true, Bool.false_or, Bool.true_or, Bool.false_and, Bool.true_and, Bool.and_false, Bool.and_true] <;> by_cases c1 : x.f1 = 0 <;> by_cases c2 : x.f1 < 0 <;> by_cases c3 : x.f1 > 18 <;> by_cases c4 : x.f5 = 0 <;> by_cases c5 : x.f6 = 0 <;> by_cases c6 : x.f6 ≥ 0 <;> (first | (simp [c1, c2, c3, c4, c5, c6]; done) | (have n2 := Int.not_lt.1 c2; have n3 := Int.not_lt.1 c3; simp [c1, c2, c3, c4, c5, c6, n2, n3]; done) | (simp [c1, c2, c3, c4, c5, c6]; omega) | omega)
  · have he : (fldB x.f0).toList = [] := by rw [toList_data, e7]; exact hk
    simp only [palingref11_one.j0, palingref11_one.j1, if_pos he, if_true]
    simp [oneB, hk]
def endsB (l : List S23) : Bool := (rd_T23 l ((l.length : Int) - 1)).f0 == 6 || ((rd_T23 l ((l.length : Int) - 1)).f0 == 12 || (rd_T23 l ((l.length : Int) - 1)).f0 == 13)
def checkB (l : List S23) (regs locks : Int) : Bool := decide (1 ≤ l.length) && (decide (l.length ≤ 4096) && (l.all (fun x => oneB x l.length regs locks) && endsB l))
theorem check_spec (l : List S23) (regs locks : Int) : Ev (fun k => palingref11_Check.f k l regs locks) (checkB l regs locks) := by
  by_cases h1 : (l.length : Int) < 1
  · refine Ev.congr (fun k => rfl) (Ev.pos h1 (Ev.step (f := fun _ => some false) (fun k => rfl) (Ev.con ?_)))
    have : ¬ 1 ≤ l.length := by omega
    simp [checkB, this]
  · refine Ev.congr (fun k => rfl) (Ev.neg h1 (Ev.step (fun k => rfl) ?_))
    by_cases h2 : (l.length : Int) > 4096
    · refine Ev.pos (decide_eq_true h2) (Ev.con ?_)
      have : ¬ l.length ≤ 4096 := by omega
      simp [checkB, this]
    · refine Ev.neg (by simpa using h2) ?_
      have key : ∀ i : Int, 0 ≤ i → i ≤ l.length → Ev (fun k => palingref11_Check.l0 k l regs locks i) ((l.drop i.toNat).all (fun x => oneB x l.length regs locks) && endsB l) := by
        refine up_ind ?_ ?_
        · refine Ev.step (fun k => rfl) (Ev.neg (by omega) ?_)
          rw [wrap_in (x := (l.length : Int) - 1) (by omega) (by omega)]
          refine Ev.pos (by omega) (Ev.pos (by omega) ?_)
          rw [List.drop_eq_nil_of_le (by omega), List.all_nil, Bool.true_and]
          unfold endsB
          by_cases c1 : (rd_T23 l ((l.length : Int) - 1)).f0 = 6
          · exact Ev.pos c1 (Ev.con (by simp [c1]))
          · refine Ev.neg c1 ?_
            by_cases c2 : (rd_T23 l ((l.length : Int) - 1)).f0 = 12
            · exact Ev.pos c2 (Ev.con (by simp [c2]))
            · exact Ev.neg c2 (Ev.con (by rw [show ((rd_T23 l ((l.length : Int) - 1)).f0 == 6) = false by simpa using c1, show ((rd_T23 l ((l.length : Int) - 1)).f0 == 12) = false by simpa using c2]; rfl))
        · intro i h0 hi ih
          refine Ev.step (fun k => rfl) (Ev.pos hi (Ev.pos h0 (Ev.bind (one_spec _ _ _ _) ?_)))
          rw [getD_drop l z23 i.toNat (by omega), List.all_cons, show l.getD i.toNat z23 = rd_T23 l i from rfl]
          cases hq : oneB (rd_T23 l i) l.length regs locks with
          | true =>
            refine Ev.tt ?_
            rw [wrap_up h0 hi (by omega), Bool.true_and]
            rw [show (i + 1).toNat = i.toNat + 1 by omega] at ih
            exact ih
          | false =>
            refine Ev.ff (Ev.con ?_)
            simp
      have h3 : 1 ≤ l.length := by omega
      have h4 : l.length ≤ 4096 := by omega
      simpa [checkB, h3, h4] using key 0 (by omega) (by omega)
theorem check_facts {l : List S23} {regs locks : Int} (h : checkB l regs locks = true) : 1 ≤ l.length ∧ l.length ≤ 4096 ∧ (∀ x ∈ l, oneB x l.length regs locks = true) ∧ endsB l = true := by
  simp only [checkB, Bool.and_eq_true, decide_eq_true_eq, List.all_eq_true] at h
  exact ⟨h.1, h.2.1, h.2.2.1, h.2.2.2⟩
end Go.Proofs.YtggfikekggcclaaDoor.PInsChecks
