-- HAND paling/ins.of rounds=0 making=1
import Derived.Test.YtfhjkkcdeigkdaaDoorPFoldRunsx0
namespace Go.Proofs.YtfhjkkcdeigkdaaDoor.PFoldRuns
open Go.RowKit Go.Proofs.YtfhjkkcdeigkdaaDoorW.PrintWords Go.Proofs.YtfhjkkcdeigkdaaDoorW.PrintLast Go.Proofs.YtfhjkkcdeigkdaaDoorW.PrintMore
set_option linter.unusedVariables false
set_option linter.unusedSimpArgs false

/-! The table of instructions' kinds (paling/ins.forms), as the program lays it. -/
def formsCells : Array Value := #[
  .string ⟨#[115, 101, 116]⟩, .bool true, .bool false, .bool false, .bool false, .bool true, .bool false, .bool false, .bool false, .bool false,
  .string ⟨#[109, 111, 118, 101]⟩, .bool true, .bool true, .bool false, .bool false, .bool false, .bool false, .bool false, .bool false, .bool false,
  .string ⟨#[99, 97, 108, 99]⟩, .bool true, .bool true, .bool true, .bool true, .bool false, .bool false, .bool false, .bool false, .bool false,
  .string ⟨#[112, 105, 99, 107]⟩, .bool true, .bool true, .bool true, .bool false, .bool false, .bool false, .bool false, .bool true, .bool false,
  .string ⟨#[108, 111, 97, 100]⟩, .bool true, .bool true, .bool false, .bool false, .bool true, .bool false, .bool true, .bool false, .bool false,
  .string ⟨#[115, 116, 111, 114, 101]⟩, .bool false, .bool true, .bool true, .bool false, .bool true, .bool false, .bool true, .bool false, .bool false,
  .string ⟨#[106, 117, 109, 112]⟩, .bool false, .bool false, .bool false, .bool false, .bool false, .bool true, .bool false, .bool false, .bool false,
  .string ⟨#[122, 101, 114, 111]⟩, .bool false, .bool true, .bool false, .bool false, .bool false, .bool true, .bool false, .bool false, .bool false,
  .string ⟨#[102, 101, 110, 99, 101]⟩, .bool false, .bool false, .bool false, .bool false, .bool false, .bool false, .bool false, .bool false, .bool false,
  .string ⟨#[116, 97, 107, 101]⟩, .bool false, .bool false, .bool false, .bool false, .bool true, .bool false, .bool false, .bool false, .bool false,
  .string ⟨#[103, 105, 118, 101]⟩, .bool false, .bool false, .bool false, .bool false, .bool true, .bool false, .bool false, .bool false, .bool false,
  .string ⟨#[111, 117, 116]⟩, .bool false, .bool true, .bool false, .bool false, .bool false, .bool false, .bool false, .bool false, .bool false,
  .string ⟨#[116, 114, 97, 112]⟩, .bool false, .bool false, .bool false, .bool false, .bool true, .bool false, .bool false, .bool false, .bool true,
  .string ⟨#[104, 97, 108, 116]⟩, .bool false, .bool false, .bool false, .bool false, .bool false, .bool false, .bool false, .bool false, .bool true]
/-- the tables lie there -/
structure GlobOK (w : World) : Prop where
  forms : ∀ (i : Nat) (v : Value), formsCells[i]? = some v → w.cell? ⟨0, i, none⟩ = some v
set_option maxRecDepth 100000 in
theorem forms_size : formsCells.size = 140 := by kernel_rfl
set_option maxRecDepth 100000 in
theorem forms0 : formsCells[0]? = some (.string ⟨#[115, 101, 116]⟩) := by kernel_rfl
theorem GlobOK.lt {w : World} (h : GlobOK w) : 0 < w.heap.size := World.block_lt_of_cell? w _ (h.forms 0 _ forms0)
theorem GlobOK.step {w w' : World} (h : GlobOK w) (hb : Below w.heap.size w w') : GlobOK w' := {
  forms := fun i v hv => (hb.cell (p := ⟨0, i, none⟩) h.lt).trans (h.forms i v hv)
  }
theorem GlobOK.alloc {w : World} (h : GlobOK w) (o : Obj) : GlobOK (w.alloc o) := h.step ((Below.refl _ _).alloc (Nat.le_refl _) _)
theorem GlobOK.drewN {w : World} (h : GlobOK w) (n : Nat) : GlobOK (w.drewN n) := h.step (pw_below_drewN (Below.refl _ _) n)
def fmW (k : Int) : ByteArray := match (if 0 ≤ k then formsCells[k.toNat * 10]? else none) with | some (.string s) => s | _ => ⟨#[]⟩
def fmB (j : Nat) (k : Int) : Bool := match (if 0 ≤ k then formsCells[k.toNat * 10 + j]? else none) with | some (.bool b) => b | _ => false
def formV (k : Int) : Value := .agg #[.string (fmW k), .bool (fmB 1 k), .bool (fmB 2 k), .bool (fmB 3 k), .bool (fmB 4 k), .bool (fmB 5 k), .bool (fmB 6 k), .bool (fmB 7 k), .bool (fmB 8 k), .bool (fmB 9 k)]
theorem kind_cases' {P : Int → Prop} (a0 : Int) (h : 0 ≤ a0 ∧ a0 < 14) (h0 : P 0) (h1 : P 1) (h2 : P 2) (h3 : P 3) (h4 : P 4) (h5 : P 5) (h6 : P 6) (h7 : P 7) (h8 : P 8) (h9 : P 9) (h10 : P 10) (h11 : P 11) (h12 : P 12) (h13 : P 13) : P a0 := by
  have : a0 = 0 ∨ a0 = 1 ∨ a0 = 2 ∨ a0 = 3 ∨ a0 = 4 ∨ a0 = 5 ∨ a0 = 6 ∨ a0 = 7 ∨ a0 = 8 ∨ a0 = 9 ∨ a0 = 10 ∨ a0 = 11 ∨ a0 = 12 ∨ a0 = 13 := by omega
  rcases this with rfl | rfl | rfl | rfl | rfl | rfl | rfl | rfl | rfl | rfl | rfl | rfl | rfl | rfl <;> assumption
theorem fmB_out (j : Nat) (hj : j < 10) (k : Int) (h : ¬ (0 ≤ k ∧ k < 14)) : fmB j k = false := by
  unfold fmB
  by_cases h0 : 0 ≤ k
  · rw [if_pos h0, Array.getElem?_eq_none (by rw [forms_size]; omega)]
  · rw [if_neg h0]
theorem fmW_out (k : Int) (h : ¬ (0 ≤ k ∧ k < 14)) : fmW k = ⟨#[]⟩ := by
  unfold fmW
  by_cases h0 : 0 ≤ k
  · rw [if_pos h0, Array.getElem?_eq_none (by rw [forms_size]; omega)]
  · rw [if_neg h0]
theorem formV_out (k : Int) (h : ¬ (0 ≤ k ∧ k < 14)) : formV k = .agg #[.string ⟨#[]⟩, .bool false, .bool false, .bool false, .bool false, .bool false, .bool false, .bool false, .bool false, .bool false] := by
  unfold formV
  rw [fmW_out k h, fmB_out 1 (by decide) k h, fmB_out 2 (by decide) k h, fmB_out 3 (by decide) k h, fmB_out 4 (by decide) k h, fmB_out 5 (by decide) k h, fmB_out 6 (by decide) k h, fmB_out 7 (by decide) k h, fmB_out 8 (by decide) k h, fmB_out 9 (by decide) k h]
theorem forms_row (k : Int) (h : 0 ≤ k ∧ k < 14) : formsCells[k.toNat * 10]? = some (.string (fmW k)) ∧ formsCells[k.toNat * 10 + 1]? = some (.bool (fmB 1 k)) ∧ formsCells[k.toNat * 10 + 2]? = some (.bool (fmB 2 k)) ∧ formsCells[k.toNat * 10 + 3]? = some (.bool (fmB 3 k)) ∧ formsCells[k.toNat * 10 + 4]? = some (.bool (fmB 4 k)) ∧ formsCells[k.toNat * 10 + 5]? = some (.bool (fmB 5 k)) ∧ formsCells[k.toNat * 10 + 6]? = some (.bool (fmB 6 k)) ∧ formsCells[k.toNat * 10 + 7]? = some (.bool (fmB 7 k)) ∧ formsCells[k.toNat * 10 + 8]? = some (.bool (fmB 8 k)) ∧ formsCells[k.toNat * 10 + 9]? = some (.bool (fmB 9 k)) := by
  refine kind_cases' (P := fun k => formsCells[k.toNat * 10]? = some (.string (fmW k)) ∧ formsCells[k.toNat * 10 + 1]? = some (.bool (fmB 1 k)) ∧ formsCells[k.toNat * 10 + 2]? = some (.bool (fmB 2 k)) ∧ formsCells[k.toNat * 10 + 3]? = some (.bool (fmB 3 k)) ∧ formsCells[k.toNat * 10 + 4]? = some (.bool (fmB 4 k)) ∧ formsCells[k.toNat * 10 + 5]? = some (.bool (fmB 5 k)) ∧ formsCells[k.toNat * 10 + 6]? = some (.bool (fmB 6 k)) ∧ formsCells[k.toNat * 10 + 7]? = some (.bool (fmB 7 k)) ∧ formsCells[k.toNat * 10 + 8]? = some (.bool (fmB 8 k)) ∧ formsCells[k.toNat * 10 + 9]? = some (.bool (fmB 9 k))) k h ?_ ?_ ?_ ?_ ?_ ?_ ?_ ?_ ?_ ?_ ?_ ?_ ?_ ?_
  all_goals exact ⟨by kernel_rfl, by kernel_rfl, by kernel_rfl, by kernel_rfl, by kernel_rfl, by kernel_rfl, by kernel_rfl, by kernel_rfl, by kernel_rfl, by kernel_rfl⟩
set_option maxHeartbeats 2000000 in
theorem ins_ofV.calls (a0 : Int) (w : World) (hgl : GlobOK w) :
    Calls Tryd.prog 47 #[.int .i64 a0] w fun e w' => e = .returned (formV a0) ∧ Below w.heap.size w w' := by
  by_cases h : 0 ≤ a0 ∧ a0 < 14
  · have hr := forms_row a0 h
    unfold formV
    obtain ⟨b0, e0⟩ : ∃ b, b = fmW a0 := ⟨_, rfl⟩
    obtain ⟨b1, e1⟩ : ∃ b, b = fmB 1 a0 := ⟨_, rfl⟩
    obtain ⟨b2, e2⟩ : ∃ b, b = fmB 2 a0 := ⟨_, rfl⟩
    obtain ⟨b3, e3⟩ : ∃ b, b = fmB 3 a0 := ⟨_, rfl⟩
    obtain ⟨b4, e4⟩ : ∃ b, b = fmB 4 a0 := ⟨_, rfl⟩
    obtain ⟨b5, e5⟩ : ∃ b, b = fmB 5 a0 := ⟨_, rfl⟩
    obtain ⟨b6, e6⟩ : ∃ b, b = fmB 6 a0 := ⟨_, rfl⟩
    obtain ⟨b7, e7⟩ : ∃ b, b = fmB 7 a0 := ⟨_, rfl⟩
    obtain ⟨b8, e8⟩ : ∃ b, b = fmB 8 a0 := ⟨_, rfl⟩
    obtain ⟨b9, e9⟩ : ∃ b, b = fmB 9 a0 := ⟨_, rfl⟩
    rw [← e0, ← e1, ← e2, ← e3, ← e4, ← e5, ← e6, ← e7, ← e8, ← e9] at hr ⊢
    clear e0 e1 e2 e3 e4 e5 e6 e7 e8 e9
    obtain ⟨q0, q1, q2, q3, q4, q5, q6, q7, q8, q9⟩ := hr
    replace q0 := hgl.forms _ _ q0
    replace q1 := hgl.forms _ _ q1
    replace q2 := hgl.forms _ _ q2
    replace q3 := hgl.forms _ _ q3
    replace q4 := hgl.forms _ _ q4
    replace q5 := hgl.forms _ _ q5
    replace q6 := hgl.forms _ _ q6
    replace q7 := hgl.forms _ _ q7
    replace q8 := hgl.forms _ _ q8
    replace q9 := hgl.forms _ _ q9
    have hg := hgl.lt
    clear hgl
    obtain ⟨h0, h1⟩ := h
    have h0' : ¬ a0 < 0 := by omega
    go_enter Tryd.func47, Tryd.ntmps47
    go_wp2_with fail
    exact bodyPost_ret (v := .agg #[.string b0, .bool b1, .bool b2, .bool b3, .bool b4, .bool b5, .bool b6, .bool b7, .bool b8, .bool b9]) (by simp [results, Tryd.results47, go_sem]) rfl ⟨rfl, (Below.refl _ _).alloc (Nat.le_refl _) _⟩
  · rw [formV_out a0 h]
    clear hgl
    by_cases h0 : a0 < 0
    · clear h
      go_enter Tryd.func47, Tryd.ntmps47
      go_wp2_with fail
      exact bodyPost_ret (v := .agg #[.string ⟨#[]⟩, .bool false, .bool false, .bool false, .bool false, .bool false, .bool false, .bool false, .bool false, .bool false]) (by simp [results, Tryd.results47, go_sem]) rfl ⟨rfl, (Below.refl _ _).alloc (Nat.le_refl _) _⟩
    · have h1 : 14 ≤ a0 := by omega
      clear h
      go_enter Tryd.func47, Tryd.ntmps47
      go_wp2_with fail
      exact bodyPost_ret (v := .agg #[.string ⟨#[]⟩, .bool false, .bool false, .bool false, .bool false, .bool false, .bool false, .bool false, .bool false, .bool false]) (by simp [results, Tryd.results47, go_sem]) rfl ⟨rfl, (Below.refl _ _).alloc (Nat.le_refl _) _⟩
def ins_of.f (a0 : Int) : Option (ByteArray × Bool × Bool × Bool × Bool × Bool × Bool × Bool × Bool × Bool) := some (fmW a0, fmB 1 a0, fmB 2 a0, fmB 3 a0, fmB 4 a0, fmB 5 a0, fmB 6 a0, fmB 7 a0, fmB 8 a0, fmB 9 a0)
theorem ins_of.calls (a0 : Int) (s : ByteArray) (b1 b2 b3 b4 b5 b6 b7 b8 b9 : Bool) (w : World) (h : ins_of.f a0 = some (s, b1, b2, b3, b4, b5, b6, b7, b8, b9)) (hgl : GlobOK w) :
    Calls Tryd.prog 47 #[.int .i64 a0] w fun e w' => e = .returned (.agg #[.string s, .bool b1, .bool b2, .bool b3, .bool b4, .bool b5, .bool b6, .bool b7, .bool b8, .bool b9]) ∧ Below w.heap.size w w' := by
  unfold ins_of.f at h
  replace h := Option.some.inj h
  simp only [Prod.mk.injEq] at h
  obtain ⟨rfl, rfl, rfl, rfl, rfl, rfl, rfl, rfl, rfl, rfl⟩ := h
  exact ins_ofV.calls a0 w hgl
theorem form_field1 (s : ByteArray) (b1 b2 b3 b4 b5 b6 b7 b8 b9 : Bool) (w : World) : (Instr.field 95 (.agg #[.string s, .bool b1, .bool b2, .bool b3, .bool b4, .bool b5, .bool b6, .bool b7, .bool b8, .bool b9]) 1).run Tryd.prog w = .ok (.bool b1) w := by kernel_rfl
theorem form_field2 (s : ByteArray) (b1 b2 b3 b4 b5 b6 b7 b8 b9 : Bool) (w : World) : (Instr.field 95 (.agg #[.string s, .bool b1, .bool b2, .bool b3, .bool b4, .bool b5, .bool b6, .bool b7, .bool b8, .bool b9]) 2).run Tryd.prog w = .ok (.bool b2) w := by kernel_rfl
theorem form_field3 (s : ByteArray) (b1 b2 b3 b4 b5 b6 b7 b8 b9 : Bool) (w : World) : (Instr.field 95 (.agg #[.string s, .bool b1, .bool b2, .bool b3, .bool b4, .bool b5, .bool b6, .bool b7, .bool b8, .bool b9]) 3).run Tryd.prog w = .ok (.bool b3) w := by kernel_rfl
theorem form_field4 (s : ByteArray) (b1 b2 b3 b4 b5 b6 b7 b8 b9 : Bool) (w : World) : (Instr.field 95 (.agg #[.string s, .bool b1, .bool b2, .bool b3, .bool b4, .bool b5, .bool b6, .bool b7, .bool b8, .bool b9]) 4).run Tryd.prog w = .ok (.bool b4) w := by kernel_rfl
theorem form_field5 (s : ByteArray) (b1 b2 b3 b4 b5 b6 b7 b8 b9 : Bool) (w : World) : (Instr.field 95 (.agg #[.string s, .bool b1, .bool b2, .bool b3, .bool b4, .bool b5, .bool b6, .bool b7, .bool b8, .bool b9]) 5).run Tryd.prog w = .ok (.bool b5) w := by kernel_rfl
theorem form_field6 (s : ByteArray) (b1 b2 b3 b4 b5 b6 b7 b8 b9 : Bool) (w : World) : (Instr.field 95 (.agg #[.string s, .bool b1, .bool b2, .bool b3, .bool b4, .bool b5, .bool b6, .bool b7, .bool b8, .bool b9]) 6).run Tryd.prog w = .ok (.bool b6) w := by kernel_rfl
theorem form_field7 (s : ByteArray) (b1 b2 b3 b4 b5 b6 b7 b8 b9 : Bool) (w : World) : (Instr.field 95 (.agg #[.string s, .bool b1, .bool b2, .bool b3, .bool b4, .bool b5, .bool b6, .bool b7, .bool b8, .bool b9]) 7).run Tryd.prog w = .ok (.bool b7) w := by kernel_rfl
theorem form_field8 (s : ByteArray) (b1 b2 b3 b4 b5 b6 b7 b8 b9 : Bool) (w : World) : (Instr.field 95 (.agg #[.string s, .bool b1, .bool b2, .bool b3, .bool b4, .bool b5, .bool b6, .bool b7, .bool b8, .bool b9]) 8).run Tryd.prog w = .ok (.bool b8) w := by kernel_rfl
theorem form_field9 (s : ByteArray) (b1 b2 b3 b4 b5 b6 b7 b8 b9 : Bool) (w : World) : (Instr.field 95 (.agg #[.string s, .bool b1, .bool b2, .bool b3, .bool b4, .bool b5, .bool b6, .bool b7, .bool b8, .bool b9]) 9).run Tryd.prog w = .ok (.bool b9) w := by kernel_rfl
theorem form_field0 (s : ByteArray) (b1 b2 b3 b4 b5 b6 b7 b8 b9 : Bool) (w : World) : (Instr.field 95 (.agg #[.string s, .bool b1, .bool b2, .bool b3, .bool b4, .bool b5, .bool b6, .bool b7, .bool b8, .bool b9]) 0).run Tryd.prog w = .ok (.string s) w := by kernel_rfl
end Go.Proofs.YtfhjkkcdeigkdaaDoor.PFoldRuns
