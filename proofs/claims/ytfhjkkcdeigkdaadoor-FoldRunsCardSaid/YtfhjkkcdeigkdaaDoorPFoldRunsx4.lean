-- Written by print2.py over the kit's printer. Not trusted: Lean checks it.
import Derived.Test.YtfhjkkcdeigkdaaDoorPFoldRunshqq
import Derived.Test.YtfhjkkcdeigkdaaDoorPFoldRunsx0
import Derived.Test.YtfhjkkcdeigkdaaDoorPFoldRunsx3
namespace Go.Proofs.YtfhjkkcdeigkdaaDoor.PFoldRuns
open Go.RowKit Go.Proofs.YtfhjkkcdeigkdaaDoorW.PrintWords Go.Proofs.YtfhjkkcdeigkdaaDoorW.PrintLast Go.Proofs.YtfhjkkcdeigkdaaDoorW.PrintMore
attribute [local go_sem] max2_int min2_int max_two min_two max_three min_three max_four min_four   -- for this text's walks alone
set_option linter.unusedVariables false
set_option linter.unusedSimpArgs false

/-! ### palingref01_one: function 79 -/
def palingref01_one.f (a0 : Bool) : Option (Int) := if a0 = true then (some 1) else (some 0)
set_option maxHeartbeats 8000000 in
set_option maxRecDepth 100000 in
theorem palingref01_one.calls (a0 : Bool) (r : Int) (w : World) (h : palingref01_one.f a0 = some r) :
    Calls Tryd.prog 79 #[.bool a0] w fun e w' => e = .returned (.int .i64 r) ∧ Drawn0 w w' := by
 have H : (if a0 = true then (some 1) else (some 0)) = some r := h
 clear h
 by_cases c2 : a0 = true
 ·subst c2
  rw [if_pos rfl] at H
  obtain rfl := Option.some.inj H
  go_enter Tryd.func79, Tryd.ntmps79
  go_wp2
  go_ret
  exact ⟨aq1, aq2⟩
 replace c2 := Bool.eq_false_iff.mpr c2
 subst c2
 rw [if_neg nf_] at H
 obtain rfl := Option.some.inj H
 go_enter Tryd.func79, Tryd.ntmps79
 go_wp2
 go_ret
 exact ⟨aq1, aq2⟩
/-! ### palingref01_Eval: function 53 -/
def palingref01_Eval.j0 : Nat → Int → Int → Int → Int → Bool → Option (Int)
  | 0, _, _, _, _, _ => none
  | k + 1, x0, x1, x2, x7, x52 => if x52 = true then ((palingref01_shift.f k x1 x2 (x0 == 8)).bind fun t123 => (some t123)) else (if x7 = 10 then ((palingref01_one.f (x1 == x2)).bind fun t124 => (some t124)) else (if x7 = 11 then ((palingref01_one.f (x1 != x2)).bind fun t125 => (some t125)) else (if x7 = 12 then ((palingref01_one.f (decide (x1 < x2))).bind fun t126 => (some t126)) else (if x7 = 13 then ((palingref01_one.f (decide (x1 ≤ x2))).bind fun t127 => (some t127)) else (if x7 = 14 then ((palingref01_one.f (decide (x1 > x2))).bind fun t128 => (some t128)) else (if x7 = 15 then ((palingref01_one.f (decide (x1 ≥ x2))).bind fun t129 => (some t129)) else (if x7 = 16 then ((palingref01_one.f (decide ((IntKind.u64.wrap (x1)) < (IntKind.u64.wrap (x2))))).bind fun t130 => (some t130)) else (if x7 = 17 then (if x1 = 0 then ((palingref01_one.f false).bind fun t131 => (some t131)) else ((palingref01_one.f (x2 != 0)).bind fun t132 => (some t132))) else (if x7 = 18 then (if x1 = 0 then ((palingref01_one.f (x2 != 0)).bind fun t133 => (some t133)) else ((palingref01_one.f true).bind fun t134 => (some t134))) else (some 0))))))))))
def palingref01_Eval.f (k : Nat) (a0 : Int) (a1 : Int) (a2 : Int) : Option (Int) := if a0 = 0 then (some (wrap64 (a1 + a2))) else (if a0 = 1 then (some (wrap64 (a1 - a2))) else (if a0 = 2 then (some (wrap64 (a1 * a2))) else (if a0 = 3 then ((palingref01_div.f a1 a2).bind fun t121 => (some t121)) else (if a0 = 4 then ((palingref01_div.f a1 a2).bind fun t122 => (some (wrap64 (a1 - (wrap64 (a2 * t122)))))) else (if a0 = 5 then (some (Go.bits .and .i64 a1 a2)) else (if a0 = 6 then (some (Go.bits .or .i64 a1 a2)) else (if a0 = 7 then (some (Go.bits .xor .i64 a1 a2)) else (if a0 = 8 then (palingref01_Eval.j0 k a0 a1 a2 a0 (a0 == 8)) else (palingref01_Eval.j0 k a0 a1 a2 a0 (a0 == 9))))))))))
theorem palingref01_Eval.mono_l : ∀ k, (∀ y0 y1 y2 y3 y4, LeO (palingref01_Eval.j0 k y0 y1 y2 y3 y4) (palingref01_Eval.j0 (k + 1) y0 y1 y2 y3 y4))
  | 0 => fun _ _ _ _ _ r h => by simp [palingref01_Eval.j0] at h
  | k + 1 => by
    have ih0 := palingref01_Eval.mono_l k
    intros <;> unfold palingref01_Eval.j0 <;> repeat' (first | (with_reducible first | exact ih0 _ _ _ _ _ | exact palingref01_shift.mono _ _ _ _ | exact LeO.refl _ | exact LeO.none _ | refine LeO.ite ?_ ?_ | refine LeO.bind ?_ (fun _ => ?_)) | exact ih0 _ _ _ _ _ | exact palingref01_shift.mono _ _ _ _ | exact LeO.none _ | refine LeO.ite ?_ ?_ | refine LeO.bind ?_ (fun _ => ?_))
theorem palingref01_Eval.mono : ∀ a0 a1 a2 k, LeO (palingref01_Eval.f k a0 a1 a2) (palingref01_Eval.f (k + 1) a0 a1 a2) := by
 intro a0 a1 a2 k
 have ih0 := palingref01_Eval.mono_l k
 unfold palingref01_Eval.f
 repeat' (first | (with_reducible first | exact ih0 _ _ _ _ _ | exact palingref01_shift.mono _ _ _ _ | exact LeO.refl _ | exact LeO.none _ | refine LeO.ite ?_ ?_ | refine LeO.bind ?_ (fun _ => ?_)) | exact ih0 _ _ _ _ _ | exact palingref01_shift.mono _ _ _ _ | exact LeO.none _ | refine LeO.ite ?_ ?_ | refine LeO.bind ?_ (fun _ => ?_))
set_option maxHeartbeats 8000000 in
set_option maxRecDepth 100000 in
theorem palingref01_Eval.calls (k : Nat) (a0 : Int) (a1 : Int) (a2 : Int) (r : Int) (w : World) (h : palingref01_Eval.f k a0 a1 a2 = some r) :
    Calls Tryd.prog 53 #[.int .i64 a0, .int .i64 a1, .int .i64 a2] w fun e w' => e = .returned (.int .i64 r) ∧ Drawn0 w w' := by
 have H : (if a0 = 0 then (some (wrap64 (a1 + a2))) else (if a0 = 1 then (some (wrap64 (a1 - a2))) else (if a0 = 2 then (some (wrap64 (a1 * a2))) else (if a0 = 3 then ((palingref01_div.f a1 a2).bind fun t121 => (some t121)) else (if a0 = 4 then ((palingref01_div.f a1 a2).bind fun t122 => (some (wrap64 (a1 - (wrap64 (a2 * t122)))))) else (if a0 = 5 then (some (Go.bits .and .i64 a1 a2)) else (if a0 = 6 then (some (Go.bits .or .i64 a1 a2)) else (if a0 = 7 then (some (Go.bits .xor .i64 a1 a2)) else (if a0 = 8 then (palingref01_Eval.j0 k a0 a1 a2 a0 (a0 == 8)) else (palingref01_Eval.j0 k a0 a1 a2 a0 (a0 == 9))))))))))) = some r := h
 clear h
 by_cases c4 : a0 = 0
 ·rw [if_pos c4] at H
  have c4b0 : (a0 == 0) = true := beq_iff_eq.mpr c4
  have c4b1 : (a0 != 0) = false := bne_eq_false_iff_eq.mpr c4
  clear c4
  obtain rfl := Option.some.inj H
  go_enter Tryd.func53, Tryd.ntmps53
  go_wp2
  go_ret
  exact ⟨aq1, aq2⟩
 rw [if_neg c4] at H
 have c4b0 : (a0 == 0) = false := beq_eq_false_iff_ne.mpr c4
 have c4b1 : (a0 != 0) = true := bne_iff_ne.mpr c4
 by_cases c5 : a0 = 1
 ·rw [if_pos c5] at H
  have c5b0 : (a0 == 1) = true := beq_iff_eq.mpr c5
  have c5b1 : (a0 != 1) = false := bne_eq_false_iff_eq.mpr c5
  clear c5
  obtain rfl := Option.some.inj H
  go_enter Tryd.func53, Tryd.ntmps53
  go_wp2
  go_ret
  exact ⟨aq1, aq2⟩
 rw [if_neg c5] at H
 have c5b0 : (a0 == 1) = false := beq_eq_false_iff_ne.mpr c5
 have c5b1 : (a0 != 1) = true := bne_iff_ne.mpr c5
 by_cases c6 : a0 = 2
 ·rw [if_pos c6] at H
  have c6b0 : (a0 == 2) = true := beq_iff_eq.mpr c6
  have c6b1 : (a0 != 2) = false := bne_eq_false_iff_eq.mpr c6
  clear c6
  obtain rfl := Option.some.inj H
  go_enter Tryd.func53, Tryd.ntmps53
  go_wp2
  go_ret
  exact ⟨aq1, aq2⟩
 rw [if_neg c6] at H
 have c6b0 : (a0 == 2) = false := beq_eq_false_iff_ne.mpr c6
 have c6b1 : (a0 != 2) = true := bne_iff_ne.mpr c6
 by_cases c7 : a0 = 3
 ·rw [if_pos c7] at H
  have c7b0 : (a0 == 3) = true := beq_iff_eq.mpr c7
  have c7b1 : (a0 != 3) = false := bne_eq_false_iff_eq.mpr c7
  clear c7
  obtain ⟨t121, A8, H⟩ := bS_ H
  obtain rfl := Option.some.inj H
  go_enter Tryd.func53, Tryd.ntmps53
  go_wp2_with (first | ((with_reducible refine gate_callee (f := 77) rfl ?_); refine goesL_ (some 27) rfl rfl Tryd.func77 (by kernel_rfl) rfl #[.int .i64 a1, .int .i64 a2] rfl aq3 ?_; (with_reducible refine (palingref01_div.calls a1 a2 t121 _ A8.out).mono ?_); rintro e w' ⟨rfl, ⟨nd, rfl⟩⟩; refine ⟨_, rfl, ?_⟩))
  go_ret
  exact ⟨aq1, aq2⟩
 rw [if_neg c7] at H
 have c7b0 : (a0 == 3) = false := beq_eq_false_iff_ne.mpr c7
 have c7b1 : (a0 != 3) = true := bne_iff_ne.mpr c7
 by_cases c9 : a0 = 4
 ·rw [if_pos c9] at H
  have c9b0 : (a0 == 4) = true := beq_iff_eq.mpr c9
  have c9b1 : (a0 != 4) = false := bne_eq_false_iff_eq.mpr c9
  clear c9
  obtain ⟨t122, A10, H⟩ := bS_ H
  obtain rfl := Option.some.inj H
  go_enter Tryd.func53, Tryd.ntmps53
  go_wp2_with (first | ((with_reducible refine gate_callee (f := 77) rfl ?_); refine goesL_ (some 34) rfl rfl Tryd.func77 (by kernel_rfl) rfl #[.int .i64 a1, .int .i64 a2] rfl aq3 ?_; (with_reducible refine (palingref01_div.calls a1 a2 t122 _ A10.out).mono ?_); rintro e w' ⟨rfl, ⟨nd, rfl⟩⟩; refine ⟨_, rfl, ?_⟩))
  go_ret
  exact ⟨aq1, aq2⟩
 rw [if_neg c9] at H
 have c9b0 : (a0 == 4) = false := beq_eq_false_iff_ne.mpr c9
 have c9b1 : (a0 != 4) = true := bne_iff_ne.mpr c9
 by_cases c11 : a0 = 5
 ·rw [if_pos c11] at H
  have c11b0 : (a0 == 5) = true := beq_iff_eq.mpr c11
  have c11b1 : (a0 != 5) = false := bne_eq_false_iff_eq.mpr c11
  clear c11
  obtain rfl := Option.some.inj H
  go_enter Tryd.func53, Tryd.ntmps53
  go_wp2
  go_ret
  exact ⟨aq1, aq2⟩
 rw [if_neg c11] at H
 have c11b0 : (a0 == 5) = false := beq_eq_false_iff_ne.mpr c11
 have c11b1 : (a0 != 5) = true := bne_iff_ne.mpr c11
 by_cases c12 : a0 = 6
 ·rw [if_pos c12] at H
  have c12b0 : (a0 == 6) = true := beq_iff_eq.mpr c12
  have c12b1 : (a0 != 6) = false := bne_eq_false_iff_eq.mpr c12
  clear c12
  obtain rfl := Option.some.inj H
  go_enter Tryd.func53, Tryd.ntmps53
  go_wp2
  go_ret
  exact ⟨aq1, aq2⟩
 rw [if_neg c12] at H
 have c12b0 : (a0 == 6) = false := beq_eq_false_iff_ne.mpr c12
 have c12b1 : (a0 != 6) = true := bne_iff_ne.mpr c12
 by_cases c13 : a0 = 7
 ·rw [if_pos c13] at H
  have c13b0 : (a0 == 7) = true := beq_iff_eq.mpr c13
  have c13b1 : (a0 != 7) = false := bne_eq_false_iff_eq.mpr c13
  clear c13
  obtain rfl := Option.some.inj H
  go_enter Tryd.func53, Tryd.ntmps53
  go_wp2
  go_ret
  exact ⟨aq1, aq2⟩
 rw [if_neg c13] at H
 have c13b0 : (a0 == 7) = false := beq_eq_false_iff_ne.mpr c13
 have c13b1 : (a0 != 7) = true := bne_iff_ne.mpr c13
 have HC14 := Aside0.mk H
 clear H
 go_enter Tryd.func53, Tryd.ntmps53
 go_upto_if 52 with (fail)
 go_cut [52] (fun v52 wc => ∃ (kq : Nat) (x52_13 : Bool), v52 = .bool x52_13 ∧ Aside0 (palingref01_Eval.j0 kq a0 a1 a2 a0 x52_13 = some r) ∧ Aside0 (kq ≤ k) ∧ Drawn0 w wc)
 case first =>
  have H := HC14.out
  clear HC14
  by_cases c15 : a0 = 8
  rotate_left
  ·rw [if_neg c15] at H
   have c15b0 : (a0 == 8) = false := beq_eq_false_iff_ne.mpr c15
   have c15b1 : (a0 != 8) = true := bne_iff_ne.mpr c15
   (first | rw [c15b0] | (simp only [i64_w, i32_w]; rw [c15b0]) | skip)
   have H' := Aside0.mk H
   clear H
   go_wp2
   go_meet
   case rel => exact ⟨_, ((a0 == 9)), aq1, H', ⟨aq16⟩, aq2⟩
  rw [if_pos c15] at H
  have c15b0 : (a0 == 8) = true := beq_iff_eq.mpr c15
  have c15b1 : (a0 != 8) = false := bne_eq_false_iff_eq.mpr c15
  clear c15
  (first | rw [c15b0] | (simp only [i64_w, i32_w]; rw [c15b0]) | skip)
  have H' := Aside0.mk H
  clear H
  go_wp2
  go_meet
  case rel => exact ⟨_, ((a0 == 8)), aq1, H', ⟨aq16⟩, aq2⟩
 case rest =>
  clear HC14
  obtain ⟨kq, x52_13, rfl, HA, HJ13, ⟨mc13, rfl⟩⟩ := hcut
  cases kq with
  | zero => exact absurd HA.out (by simp [palingref01_Eval.j0])
  | succ kj13 =>
   have H := HA.out
   clear HA
   simp only [palingref01_Eval.j0] at H
   by_cases c16 : x52_13 = true
   ·subst c16
    rw [if_pos rfl] at H
    obtain ⟨t123, A17, H⟩ := bS_ H
    obtain rfl := Option.some.inj H
    go_wp2_with (first | ((with_reducible refine gate_callee (f := 78) rfl ?_); refine goesL_ (some 59) rfl rfl Tryd.func78 (by kernel_rfl) rfl #[.int .i64 a1, .int .i64 a2, .bool (a0 == 8)] rfl aq3 ?_; (with_reducible refine (palingref01_shift.calls kj13 a1 a2 (a0 == 8) t123 _ A17.out).mono ?_); rintro e w' ⟨rfl, ⟨nd, rfl⟩⟩; refine ⟨_, rfl, ?_⟩))
    go_ret
    exact ⟨aq1, aq2⟩
   replace c16 := Bool.eq_false_iff.mpr c16
   subst c16
   rw [if_neg nf_] at H
   by_cases c18 : a0 = 10
   ·rw [if_pos c18] at H
    have c18b0 : (a0 == 10) = true := beq_iff_eq.mpr c18
    have c18b1 : (a0 != 10) = false := bne_eq_false_iff_eq.mpr c18
    clear c18
    obtain ⟨t124, A19, H⟩ := bS_ H
    obtain rfl := Option.some.inj H
    go_wp2_with (first | ((with_reducible refine gate_callee (f := 79) rfl ?_); refine goesL_ (some 65) rfl rfl Tryd.func79 (by kernel_rfl) rfl #[.bool (a1 == a2)] rfl aq3 ?_; (with_reducible refine (palingref01_one.calls (a1 == a2) t124 _ A19.out).mono ?_); rintro e w' ⟨rfl, ⟨nd, rfl⟩⟩; refine ⟨_, rfl, ?_⟩))
    go_ret
    exact ⟨aq1, aq2⟩
   rw [if_neg c18] at H
   have c18b0 : (a0 == 10) = false := beq_eq_false_iff_ne.mpr c18
   have c18b1 : (a0 != 10) = true := bne_iff_ne.mpr c18
   by_cases c20 : a0 = 11
   ·rw [if_pos c20] at H
    have c20b0 : (a0 == 11) = true := beq_iff_eq.mpr c20
    have c20b1 : (a0 != 11) = false := bne_eq_false_iff_eq.mpr c20
    clear c20
    obtain ⟨t125, A21, H⟩ := bS_ H
    obtain rfl := Option.some.inj H
    go_wp2_with (first | ((with_reducible refine gate_callee (f := 79) rfl ?_); refine goesL_ (some 71) rfl rfl Tryd.func79 (by kernel_rfl) rfl #[.bool (a1 != a2)] rfl aq3 ?_; (with_reducible refine (palingref01_one.calls (a1 != a2) t125 _ A21.out).mono ?_); rintro e w' ⟨rfl, ⟨nd, rfl⟩⟩; refine ⟨_, rfl, ?_⟩))
    go_ret
    exact ⟨aq1, aq2⟩
   rw [if_neg c20] at H
   have c20b0 : (a0 == 11) = false := beq_eq_false_iff_ne.mpr c20
   have c20b1 : (a0 != 11) = true := bne_iff_ne.mpr c20
   by_cases c22 : a0 = 12
   ·rw [if_pos c22] at H
    have c22b0 : (a0 == 12) = true := beq_iff_eq.mpr c22
    have c22b1 : (a0 != 12) = false := bne_eq_false_iff_eq.mpr c22
    clear c22
    obtain ⟨t126, A23, H⟩ := bS_ H
    obtain rfl := Option.some.inj H
    go_wp2_with (first | ((with_reducible refine gate_callee (f := 79) rfl ?_); refine goesL_ (some 77) rfl rfl Tryd.func79 (by kernel_rfl) rfl #[.bool (decide (a1 < a2))] rfl aq3 ?_; (with_reducible refine (palingref01_one.calls (decide (a1 < a2)) t126 _ A23.out).mono ?_); rintro e w' ⟨rfl, ⟨nd, rfl⟩⟩; refine ⟨_, rfl, ?_⟩))
    go_ret
    exact ⟨aq1, aq2⟩
   rw [if_neg c22] at H
   have c22b0 : (a0 == 12) = false := beq_eq_false_iff_ne.mpr c22
   have c22b1 : (a0 != 12) = true := bne_iff_ne.mpr c22
   by_cases c24 : a0 = 13
   ·rw [if_pos c24] at H
    have c24b0 : (a0 == 13) = true := beq_iff_eq.mpr c24
    have c24b1 : (a0 != 13) = false := bne_eq_false_iff_eq.mpr c24
    clear c24
    obtain ⟨t127, A25, H⟩ := bS_ H
    obtain rfl := Option.some.inj H
    go_wp2_with (first | ((with_reducible refine gate_callee (f := 79) rfl ?_); refine goesL_ (some 83) rfl rfl Tryd.func79 (by kernel_rfl) rfl #[.bool (decide (a1 ≤ a2))] rfl aq3 ?_; (with_reducible refine (palingref01_one.calls (decide (a1 ≤ a2)) t127 _ A25.out).mono ?_); rintro e w' ⟨rfl, ⟨nd, rfl⟩⟩; refine ⟨_, rfl, ?_⟩))
    go_ret
    exact ⟨aq1, aq2⟩
   rw [if_neg c24] at H
   have c24b0 : (a0 == 13) = false := beq_eq_false_iff_ne.mpr c24
   have c24b1 : (a0 != 13) = true := bne_iff_ne.mpr c24
   by_cases c26 : a0 = 14
   ·rw [if_pos c26] at H
    have c26b0 : (a0 == 14) = true := beq_iff_eq.mpr c26
    have c26b1 : (a0 != 14) = false := bne_eq_false_iff_eq.mpr c26
    clear c26
    obtain ⟨t128, A27, H⟩ := bS_ H
    obtain rfl := Option.some.inj H
    go_wp2_with (first | ((with_reducible refine gate_callee (f := 79) rfl ?_); refine goesL_ (some 89) rfl rfl Tryd.func79 (by kernel_rfl) rfl #[.bool (decide (a1 > a2))] rfl aq3 ?_; (with_reducible refine (palingref01_one.calls (decide (a1 > a2)) t128 _ A27.out).mono ?_); rintro e w' ⟨rfl, ⟨nd, rfl⟩⟩; refine ⟨_, rfl, ?_⟩))
    go_ret
    exact ⟨aq1, aq2⟩
   rw [if_neg c26] at H
   have c26b0 : (a0 == 14) = false := beq_eq_false_iff_ne.mpr c26
   have c26b1 : (a0 != 14) = true := bne_iff_ne.mpr c26
   by_cases c28 : a0 = 15
   ·rw [if_pos c28] at H
    have c28b0 : (a0 == 15) = true := beq_iff_eq.mpr c28
    have c28b1 : (a0 != 15) = false := bne_eq_false_iff_eq.mpr c28
    clear c28
    obtain ⟨t129, A29, H⟩ := bS_ H
    obtain rfl := Option.some.inj H
    go_wp2_with (first | ((with_reducible refine gate_callee (f := 79) rfl ?_); refine goesL_ (some 95) rfl rfl Tryd.func79 (by kernel_rfl) rfl #[.bool (decide (a1 ≥ a2))] rfl aq3 ?_; (with_reducible refine (palingref01_one.calls (decide (a1 ≥ a2)) t129 _ A29.out).mono ?_); rintro e w' ⟨rfl, ⟨nd, rfl⟩⟩; refine ⟨_, rfl, ?_⟩))
    go_ret
    exact ⟨aq1, aq2⟩
   rw [if_neg c28] at H
   have c28b0 : (a0 == 15) = false := beq_eq_false_iff_ne.mpr c28
   have c28b1 : (a0 != 15) = true := bne_iff_ne.mpr c28
   by_cases c30 : a0 = 16
   ·rw [if_pos c30] at H
    have c30b0 : (a0 == 16) = true := beq_iff_eq.mpr c30
    have c30b1 : (a0 != 16) = false := bne_eq_false_iff_eq.mpr c30
    clear c30
    obtain ⟨t130, A31, H⟩ := bS_ H
    obtain rfl := Option.some.inj H
    go_wp2_with (first | ((with_reducible refine gate_callee (f := 79) rfl ?_); refine goesL_ (some 103) rfl rfl Tryd.func79 (by kernel_rfl) rfl #[.bool (decide ((IntKind.u64.wrap (a1)) < (IntKind.u64.wrap (a2))))] rfl aq3 ?_; (with_reducible refine (palingref01_one.calls (decide ((IntKind.u64.wrap (a1)) < (IntKind.u64.wrap (a2)))) t130 _ A31.out).mono ?_); rintro e w' ⟨rfl, ⟨nd, rfl⟩⟩; refine ⟨_, rfl, ?_⟩))
    go_ret
    exact ⟨aq1, aq2⟩
   rw [if_neg c30] at H
   have c30b0 : (a0 == 16) = false := beq_eq_false_iff_ne.mpr c30
   have c30b1 : (a0 != 16) = true := bne_iff_ne.mpr c30
   by_cases c32 : a0 = 17
   ·rw [if_pos c32] at H
    have c32b0 : (a0 == 17) = true := beq_iff_eq.mpr c32
    have c32b1 : (a0 != 17) = false := bne_eq_false_iff_eq.mpr c32
    clear c32
    by_cases c33 : a1 = 0
    rotate_left
    ·rw [if_neg c33] at H
     have c33b0 : (a1 == 0) = false := beq_eq_false_iff_ne.mpr c33
     have c33b1 : (a1 != 0) = true := bne_iff_ne.mpr c33
     obtain ⟨t132, A35, H⟩ := bS_ H
     obtain rfl := Option.some.inj H
     go_wp2_with (first | ((with_reducible refine gate_callee (f := 79) rfl ?_); refine goesL_ (some 112) rfl rfl Tryd.func79 (by kernel_rfl) rfl #[.bool (a2 != 0)] rfl aq3 ?_; (with_reducible refine (palingref01_one.calls (a2 != 0) t132 _ A35.out).mono ?_); rintro e w' ⟨rfl, ⟨nd, rfl⟩⟩; refine ⟨_, rfl, ?_⟩))
     go_ret
     exact ⟨aq1, aq2⟩
    rw [if_pos c33] at H
    have c33b0 : (a1 == 0) = true := beq_iff_eq.mpr c33
    have c33b1 : (a1 != 0) = false := bne_eq_false_iff_eq.mpr c33
    clear c33
    obtain ⟨t131, A34, H⟩ := bS_ H
    obtain rfl := Option.some.inj H
    go_wp2_with (first | ((with_reducible refine gate_callee (f := 79) rfl ?_); refine goesL_ (some 112) rfl rfl Tryd.func79 (by kernel_rfl) rfl #[.bool false] rfl aq3 ?_; (with_reducible refine (palingref01_one.calls false t131 _ A34.out).mono ?_); rintro e w' ⟨rfl, ⟨nd, rfl⟩⟩; refine ⟨_, rfl, ?_⟩))
    go_ret
    exact ⟨aq1, aq2⟩
   rw [if_neg c32] at H
   have c32b0 : (a0 == 17) = false := beq_eq_false_iff_ne.mpr c32
   have c32b1 : (a0 != 17) = true := bne_iff_ne.mpr c32
   by_cases c36 : a0 = 18
   rotate_left
   ·rw [if_neg c36] at H
    have c36b0 : (a0 == 18) = false := beq_eq_false_iff_ne.mpr c36
    have c36b1 : (a0 != 18) = true := bne_iff_ne.mpr c36
    obtain rfl := Option.some.inj H
    go_wp2
    go_ret
    exact ⟨aq1, aq2⟩
   rw [if_pos c36] at H
   have c36b0 : (a0 == 18) = true := beq_iff_eq.mpr c36
   have c36b1 : (a0 != 18) = false := bne_eq_false_iff_eq.mpr c36
   clear c36
   by_cases c37 : a1 = 0
   rotate_left
   ·rw [if_neg c37] at H
    have c37b0 : (a1 == 0) = false := beq_eq_false_iff_ne.mpr c37
    have c37b1 : (a1 != 0) = true := bne_iff_ne.mpr c37
    obtain ⟨t134, A39, H⟩ := bS_ H
    obtain rfl := Option.some.inj H
    go_wp2_with (first | ((with_reducible refine gate_callee (f := 79) rfl ?_); refine goesL_ (some 121) rfl rfl Tryd.func79 (by kernel_rfl) rfl #[.bool true] rfl aq3 ?_; (with_reducible refine (palingref01_one.calls true t134 _ A39.out).mono ?_); rintro e w' ⟨rfl, ⟨nd, rfl⟩⟩; refine ⟨_, rfl, ?_⟩))
    go_ret
    exact ⟨aq1, aq2⟩
   rw [if_pos c37] at H
   have c37b0 : (a1 == 0) = true := beq_iff_eq.mpr c37
   have c37b1 : (a1 != 0) = false := bne_eq_false_iff_eq.mpr c37
   clear c37
   obtain ⟨t133, A38, H⟩ := bS_ H
   obtain rfl := Option.some.inj H
   go_wp2_with (first | ((with_reducible refine gate_callee (f := 79) rfl ?_); refine goesL_ (some 121) rfl rfl Tryd.func79 (by kernel_rfl) rfl #[.bool (a2 != 0)] rfl aq3 ?_; (with_reducible refine (palingref01_one.calls (a2 != 0) t133 _ A38.out).mono ?_); rintro e w' ⟨rfl, ⟨nd, rfl⟩⟩; refine ⟨_, rfl, ?_⟩))
   go_ret
   exact ⟨aq1, aq2⟩
/-! ### calc_divide: function 60 -/
def calc_divide.f (a0 : Int) (a1 : Int) : Option (Int) := if a1 = 0 then (some 0) else (if a1 = (-1) then (some (wrap64 (-a0))) else (some (wrap64 (Int.tdiv a0 a1))))
set_option maxHeartbeats 8000000 in
set_option maxRecDepth 100000 in
theorem calc_divide.calls (a0 : Int) (a1 : Int) (r : Int) (w : World) (h : calc_divide.f a0 a1 = some r) :
    Calls Tryd.prog 60 #[.int .i64 a0, .int .i64 a1] w fun e w' => e = .returned (.int .i64 r) ∧ Drawn0 w w' := by
 have H : (if a1 = 0 then (some 0) else (if a1 = (-1) then (some (wrap64 (-a0))) else (some (wrap64 (Int.tdiv a0 a1))))) = some r := h
 clear h
 by_cases c3 : a1 = 0
 ·rw [if_pos c3] at H
  have c3b0 : (a1 == 0) = true := beq_iff_eq.mpr c3
  have c3b1 : (a1 != 0) = false := bne_eq_false_iff_eq.mpr c3
  clear c3
  obtain rfl := Option.some.inj H
  go_enter Tryd.func60, Tryd.ntmps60
  go_wp2
  go_ret
  exact ⟨aq1, aq2⟩
 rw [if_neg c3] at H
 have c3b0 : (a1 == 0) = false := beq_eq_false_iff_ne.mpr c3
 have c3b1 : (a1 != 0) = true := bne_iff_ne.mpr c3
 by_cases c4 : a1 = (-1)
 rotate_left
 ·rw [if_neg c4] at H
  have c4b0 : (a1 == (-1)) = false := beq_eq_false_iff_ne.mpr c4
  have c4b1 : (a1 != (-1)) = true := bne_iff_ne.mpr c4
  obtain rfl := Option.some.inj H
  go_enter Tryd.func60, Tryd.ntmps60
  go_wp2
  go_ret
  exact ⟨aq1, aq2⟩
 rw [if_pos c4] at H
 have c4b0 : (a1 == (-1)) = true := beq_iff_eq.mpr c4
 have c4b1 : (a1 != (-1)) = false := bne_eq_false_iff_eq.mpr c4
 clear c4
 obtain rfl := Option.some.inj H
 go_enter Tryd.func60, Tryd.ntmps60
 go_wp2
 go_ret
 exact ⟨aq1, aq2⟩
/-! ### calc_told: function 68 -/
def calc_told.f (a0 : Bool) : Option (Int) := if a0 = true then (some 1) else (some 0)
set_option maxHeartbeats 8000000 in
set_option maxRecDepth 100000 in
theorem calc_told.calls (a0 : Bool) (r : Int) (w : World) (h : calc_told.f a0 = some r) :
    Calls Tryd.prog 68 #[.bool a0] w fun e w' => e = .returned (.int .i64 r) ∧ Drawn0 w w' := by
 have H : (if a0 = true then (some 1) else (some 0)) = some r := h
 clear h
 by_cases c2 : a0 = true
 ·subst c2
  rw [if_pos rfl] at H
  obtain rfl := Option.some.inj H
  go_enter Tryd.func68, Tryd.ntmps68
  go_wp2
  go_ret
  exact ⟨aq1, aq2⟩
 replace c2 := Bool.eq_false_iff.mpr c2
 subst c2
 rw [if_neg nf_] at H
 obtain rfl := Option.some.inj H
 go_enter Tryd.func68, Tryd.ntmps68
 go_wp2
 go_ret
 exact ⟨aq1, aq2⟩
end Go.Proofs.YtfhjkkcdeigkdaaDoor.PFoldRuns
