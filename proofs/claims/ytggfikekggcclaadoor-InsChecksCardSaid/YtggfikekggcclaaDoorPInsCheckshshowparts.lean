import Derived.Test.YtggfikekggcclaaDoorPInsChecksx0
import Derived.Test.YtggfikekggcclaaDoorPInsCheckshcalc
import Derived.Test.YtggfikekggcclaaDoorPInsCheckshforms
import Derived.Test.YtggfikekggcclaaDoorPInsCheckshinsshow
import Derived.Test.YtggfikekggcclaaDoorPInsCheckshjoin
namespace Go.Proofs.YtggfikekggcclaaDoor.PInsChecks
open Go.RowKit Go.Proofs.YtggfikekggcclaaDoorW.PrintWords Go.Proofs.YtggfikekggcclaaDoorW.PrintLast Go.Proofs.YtggfikekggcclaaDoorW.PrintMore
set_option linter.unusedVariables false
set_option linter.unusedSimpArgs false
open Go.Shelf
/-! An instruction's text, kind by kind (wip/gen_showref.py). -/
theorem ba_ext {a b : ByteArray} (h : a.data.toList = b.data.toList) : a = b := by
  cases a; cases b
  simp only [ByteArray.mk.injEq]
  exact Array.toList_inj.1 h
theorem sz_lit (l : List UInt8) : (⟨l.toArray⟩ : ByteArray).size = l.length := List.size_toArray
theorem join_data (l : List ByteArray) : (joinB l ⟨#[32]⟩).data.toList = Lib.join (l.map (·.data.toList)) [32] := rfl
theorem name_data (n : Int) : (nameB n).data.toList = 114 :: (digB n).data.toList := by
  unfold nameB
  rw [ByteArray.data_append, Array.toList_append]
  rfl
def atB (a : Int) : ByteArray := if 0 ≤ a then (⟨#[32, 114]⟩ : ByteArray) ++ digB a else ⟨#[]⟩
theorem parts0 (op d a b n to_ : Int) : showParts 0 op d a b n to_ = [(⟨#[115, 101, 116]⟩ : ByteArray), nameB d, digB n] := by kernel_rfl
theorem show_eq0 (op d a b n to_ : Int) : showB 0 op d a b n to_ = (((⟨#[115, 101, 116]⟩ : ByteArray) ++ ((⟨#[32, 114]⟩ : ByteArray) ++ digB d)) ++ ((⟨#[32]⟩ : ByteArray) ++ digB n)) := by
  refine ba_ext ?_
  unfold showB
  rw [parts0 op d a b n to_]
  simp [join_data, name_data, Lib.join_cons, Lib.joinTail]
theorem parts1 (op d a b n to_ : Int) : showParts 1 op d a b n to_ = [(⟨#[109, 111, 118, 101]⟩ : ByteArray), nameB d, nameB a] := by kernel_rfl
theorem show_eq1 (op d a b n to_ : Int) : showB 1 op d a b n to_ = (((⟨#[109, 111, 118, 101]⟩ : ByteArray) ++ ((⟨#[32, 114]⟩ : ByteArray) ++ digB d)) ++ ((⟨#[32, 114]⟩ : ByteArray) ++ digB a)) := by
  refine ba_ext ?_
  unfold showB
  rw [parts1 op d a b n to_]
  simp [join_data, name_data, Lib.join_cons, Lib.joinTail]
theorem parts2 (op d a b n to_ : Int) : showParts 2 op d a b n to_ = [(⟨#[99, 97, 108, 99]⟩ : ByteArray), nameB d, nameB a, signP op, nameB b] := by kernel_rfl
theorem show_eq2 (op d a b n to_ : Int) : showB 2 op d a b n to_ = ((((((⟨#[99, 97, 108, 99]⟩ : ByteArray) ++ ((⟨#[32, 114]⟩ : ByteArray) ++ digB d)) ++ ((⟨#[32, 114]⟩ : ByteArray) ++ digB a)) ++ (⟨#[32]⟩ : ByteArray)) ++ signP op) ++ ((⟨#[32, 114]⟩ : ByteArray) ++ digB b)) := by
  refine ba_ext ?_
  unfold showB
  rw [parts2 op d a b n to_]
  simp [join_data, name_data, Lib.join_cons, Lib.joinTail]
theorem parts3 (op d a b n to_ : Int) : showParts 3 op d a b n to_ = [(⟨#[112, 105, 99, 107]⟩ : ByteArray), nameB d, nameB a, nameB b] := by kernel_rfl
theorem show_eq3 (op d a b n to_ : Int) : showB 3 op d a b n to_ = ((((⟨#[112, 105, 99, 107]⟩ : ByteArray) ++ ((⟨#[32, 114]⟩ : ByteArray) ++ digB d)) ++ ((⟨#[32, 114]⟩ : ByteArray) ++ digB a)) ++ ((⟨#[32, 114]⟩ : ByteArray) ++ digB b)) := by
  refine ba_ext ?_
  unfold showB
  rw [parts3 op d a b n to_]
  simp [join_data, name_data, Lib.join_cons, Lib.joinTail]
theorem parts4 (op d a b n to_ : Int) (h : 0 ≤ a) : showParts 4 op d a b n to_ = [(⟨#[108, 111, 97, 100]⟩ : ByteArray), nameB d, digB n, nameB a] := by
  unfold showParts
  rw [show decide (a ≥ 0) = true from decide_eq_true h]
  kernel_rfl
theorem parts4n (op d a b n to_ : Int) (h : ¬ 0 ≤ a) : showParts 4 op d a b n to_ = [(⟨#[108, 111, 97, 100]⟩ : ByteArray), nameB d, digB n] := by
  unfold showParts
  rw [show decide (a ≥ 0) = false from decide_eq_false h]
  kernel_rfl
theorem show_eq4 (op d a b n to_ : Int) : showB 4 op d a b n to_ = ((((⟨#[108, 111, 97, 100]⟩ : ByteArray) ++ ((⟨#[32, 114]⟩ : ByteArray) ++ digB d)) ++ ((⟨#[32]⟩ : ByteArray) ++ digB n)) ++ (atB a)) := by
  refine ba_ext ?_
  unfold showB atB
  by_cases h : 0 ≤ a
  · rw [parts4 op d a b n to_ h, if_pos h]
    simp [join_data, name_data, Lib.join_cons, Lib.joinTail]
  · rw [parts4n op d a b n to_ h, if_neg h]
    simp [join_data, name_data, Lib.join_cons, Lib.joinTail]
theorem parts5 (op d a b n to_ : Int) (h : 0 ≤ a) : showParts 5 op d a b n to_ = [(⟨#[115, 116, 111, 114, 101]⟩ : ByteArray), digB n, nameB b, nameB a] := by
  unfold showParts
  rw [show decide (a ≥ 0) = true from decide_eq_true h]
  kernel_rfl
theorem parts5n (op d a b n to_ : Int) (h : ¬ 0 ≤ a) : showParts 5 op d a b n to_ = [(⟨#[115, 116, 111, 114, 101]⟩ : ByteArray), digB n, nameB b] := by
  unfold showParts
  rw [show decide (a ≥ 0) = false from decide_eq_false h]
  kernel_rfl
theorem show_eq5 (op d a b n to_ : Int) : showB 5 op d a b n to_ = ((((⟨#[115, 116, 111, 114, 101]⟩ : ByteArray) ++ ((⟨#[32]⟩ : ByteArray) ++ digB n)) ++ ((⟨#[32, 114]⟩ : ByteArray) ++ digB b)) ++ (atB a)) := by
  refine ba_ext ?_
  unfold showB atB
  by_cases h : 0 ≤ a
  · rw [parts5 op d a b n to_ h, if_pos h]
    simp [join_data, name_data, Lib.join_cons, Lib.joinTail]
  · rw [parts5n op d a b n to_ h, if_neg h]
    simp [join_data, name_data, Lib.join_cons, Lib.joinTail]
theorem parts6 (op d a b n to_ : Int) : showParts 6 op d a b n to_ = [(⟨#[106, 117, 109, 112]⟩ : ByteArray), digB to_] := by kernel_rfl
theorem show_eq6 (op d a b n to_ : Int) : showB 6 op d a b n to_ = ((⟨#[106, 117, 109, 112]⟩ : ByteArray) ++ ((⟨#[32]⟩ : ByteArray) ++ digB to_)) := by
  refine ba_ext ?_
  unfold showB
  rw [parts6 op d a b n to_]
  simp [join_data, name_data, Lib.join_cons, Lib.joinTail]
theorem parts7 (op d a b n to_ : Int) : showParts 7 op d a b n to_ = [(⟨#[122, 101, 114, 111]⟩ : ByteArray), nameB a, digB to_] := by kernel_rfl
theorem show_eq7 (op d a b n to_ : Int) : showB 7 op d a b n to_ = (((⟨#[122, 101, 114, 111]⟩ : ByteArray) ++ ((⟨#[32, 114]⟩ : ByteArray) ++ digB a)) ++ ((⟨#[32]⟩ : ByteArray) ++ digB to_)) := by
  refine ba_ext ?_
  unfold showB
  rw [parts7 op d a b n to_]
  simp [join_data, name_data, Lib.join_cons, Lib.joinTail]
theorem parts8 (op d a b n to_ : Int) : showParts 8 op d a b n to_ = [(⟨#[102, 101, 110, 99, 101]⟩ : ByteArray)] := by kernel_rfl
theorem show_eq8 (op d a b n to_ : Int) : showB 8 op d a b n to_ = (⟨#[102, 101, 110, 99, 101]⟩ : ByteArray) := by
  refine ba_ext ?_
  unfold showB
  rw [parts8 op d a b n to_]
  simp [join_data, name_data, Lib.join_cons, Lib.joinTail]
theorem parts9 (op d a b n to_ : Int) : showParts 9 op d a b n to_ = [(⟨#[116, 97, 107, 101]⟩ : ByteArray), digB n] := by kernel_rfl
theorem show_eq9 (op d a b n to_ : Int) : showB 9 op d a b n to_ = ((⟨#[116, 97, 107, 101]⟩ : ByteArray) ++ ((⟨#[32]⟩ : ByteArray) ++ digB n)) := by
  refine ba_ext ?_
  unfold showB
  rw [parts9 op d a b n to_]
  simp [join_data, name_data, Lib.join_cons, Lib.joinTail]
theorem parts10 (op d a b n to_ : Int) : showParts 10 op d a b n to_ = [(⟨#[103, 105, 118, 101]⟩ : ByteArray), digB n] := by kernel_rfl
theorem show_eq10 (op d a b n to_ : Int) : showB 10 op d a b n to_ = ((⟨#[103, 105, 118, 101]⟩ : ByteArray) ++ ((⟨#[32]⟩ : ByteArray) ++ digB n)) := by
  refine ba_ext ?_
  unfold showB
  rw [parts10 op d a b n to_]
  simp [join_data, name_data, Lib.join_cons, Lib.joinTail]
theorem parts11 (op d a b n to_ : Int) : showParts 11 op d a b n to_ = [(⟨#[111, 117, 116]⟩ : ByteArray), nameB a] := by kernel_rfl
theorem show_eq11 (op d a b n to_ : Int) : showB 11 op d a b n to_ = ((⟨#[111, 117, 116]⟩ : ByteArray) ++ ((⟨#[32, 114]⟩ : ByteArray) ++ digB a)) := by
  refine ba_ext ?_
  unfold showB
  rw [parts11 op d a b n to_]
  simp [join_data, name_data, Lib.join_cons, Lib.joinTail]
theorem parts12 (op d a b n to_ : Int) : showParts 12 op d a b n to_ = [(⟨#[116, 114, 97, 112]⟩ : ByteArray), digB n] := by kernel_rfl
theorem show_eq12 (op d a b n to_ : Int) : showB 12 op d a b n to_ = ((⟨#[116, 114, 97, 112]⟩ : ByteArray) ++ ((⟨#[32]⟩ : ByteArray) ++ digB n)) := by
  refine ba_ext ?_
  unfold showB
  rw [parts12 op d a b n to_]
  simp [join_data, name_data, Lib.join_cons, Lib.joinTail]
theorem parts13 (op d a b n to_ : Int) : showParts 13 op d a b n to_ = [(⟨#[104, 97, 108, 116]⟩ : ByteArray)] := by kernel_rfl
theorem show_eq13 (op d a b n to_ : Int) : showB 13 op d a b n to_ = (⟨#[104, 97, 108, 116]⟩ : ByteArray) := by
  refine ba_ext ?_
  unfold showB
  rw [parts13 op d a b n to_]
  simp [join_data, name_data, Lib.join_cons, Lib.joinTail]
theorem show_out (k op d a b n to_ : Int) (h : ¬ (0 ≤ k ∧ k < 14)) : showB k op d a b n to_ = ⟨#[]⟩ := by
  unfold showB showParts
  rw [fmW_out k h, fmB_out 1 (by decide) k h, fmB_out 2 (by decide) k h, fmB_out 3 (by decide) k h, fmB_out 4 (by decide) k h, fmB_out 5 (by decide) k h, fmB_out 6 (by decide) k h, fmB_out 7 (by decide) k h]
  rfl
end Go.Proofs.YtggfikekggcclaaDoor.PInsChecks
