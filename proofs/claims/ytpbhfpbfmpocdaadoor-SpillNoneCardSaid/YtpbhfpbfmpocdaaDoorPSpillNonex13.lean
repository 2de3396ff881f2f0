-- Written by print2.py over the kit's printer. Not trusted: Lean checks it.
import Derived.Test.YtpbhfpbfmpocdaaDoorPSpillNonehqq
import Derived.Test.YtpbhfpbfmpocdaaDoorPSpillNonex0
namespace Go.Proofs.YtpbhfpbfmpocdaaDoor.PSpillNone
open Go.RowKit Go.Proofs.YtpbhfpbfmpocdaaDoorW.PrintWords Go.Proofs.YtpbhfpbfmpocdaaDoorW.PrintLast Go.Proofs.YtpbhfpbfmpocdaaDoorW.PrintMore
attribute [local go_sem] max2_int min2_int max_two min_two max_three min_three max_four min_four   -- for this text's walks alone
set_option linter.unusedVariables false
set_option linter.unusedSimpArgs false

/-! ### palingref21_free: function 20 -/
mutual
def palingref21_free.l0 : Nat → List Int → Int → Int → Option (Int)
  | 0, _, _, _ => none
  | k + 1, x0, x1, x5 => if x5 < x1 then (palingref21_free.l1 k x0 x1 x5 false 0) else (some (-1))
def palingref21_free.l1 : Nat → List Int → Int → Int → Bool → Int → Option (Int)
  | 0, _, _, _, _, _ => none
  | k + 1, x0, x1, x5, x6, x7 => if x7 < (x0.length : Int) then (if x6 = true then (palingref21_free.l1 k x0 x1 x5 true (wrap64 (x7 + 1))) else (if 0 ≤ x7 then (palingref21_free.l1 k x0 x1 x5 ((rd x0 x7) == x5) (wrap64 (x7 + 1))) else (none))) else (if x6 = true then (palingref21_free.l0 k x0 x1 (wrap64 (x5 + 1))) else (some x5))
end
def palingref21_free.f (k : Nat) (l0 : List Int) (a1 : Int) : Option (Int) := palingref21_free.l0 k l0 a1 0
theorem palingref21_free.mono_l : ∀ k, (∀ y0 y1 y2, LeO (palingref21_free.l0 k y0 y1 y2) (palingref21_free.l0 (k + 1) y0 y1 y2)) ∧ (∀ y0 y1 y2 y3 y4, LeO (palingref21_free.l1 k y0 y1 y2 y3 y4) (palingref21_free.l1 (k + 1) y0 y1 y2 y3 y4))
  | 0 => ⟨fun _ _ _ r h => by simp [palingref21_free.l0] at h, fun _ _ _ _ _ r h => by simp [palingref21_free.l1] at h⟩
  | k + 1 => by
    obtain ⟨ih0, ih1⟩ := palingref21_free.mono_l k
    refine ⟨?_, ?_⟩ <;> intros <;> (first | unfold palingref21_free.l0 | unfold palingref21_free.l1) <;> repeat' (first | (with_reducible first | exact ih0 _ _ _ | exact ih1 _ _ _ _ _ | exact LeO.refl _ | exact LeO.none _ | refine LeO.ite ?_ ?_ | refine LeO.bind ?_ (fun _ => ?_)) | exact ih0 _ _ _ | exact ih1 _ _ _ _ _ | exact LeO.none _ | refine LeO.ite ?_ ?_ | refine LeO.bind ?_ (fun _ => ?_))
theorem palingref21_free.mono : ∀ a0 a1 k, LeO (palingref21_free.f k a0 a1) (palingref21_free.f (k + 1) a0 a1) := by
 intro a0 a1 k
 obtain ⟨ih0, ih1⟩ := palingref21_free.mono_l k
 unfold palingref21_free.f
 repeat' (first | (with_reducible first | exact ih0 _ _ _ | exact ih1 _ _ _ _ _ | exact LeO.refl _ | exact LeO.none _ | refine LeO.ite ?_ ?_ | refine LeO.bind ?_ (fun _ => ?_)) | exact ih0 _ _ _ | exact ih1 _ _ _ _ _ | exact LeO.none _ | refine LeO.ite ?_ ?_ | refine LeO.bind ?_ (fun _ => ?_))
set_option maxHeartbeats 8000000 in
set_option maxRecDepth 100000 in
theorem palingref21_free.calls (k : Nat) (A0 : Option Addr) (c0 : Nat) (l0 : List Int) (a1 : Int) (r : Int) (w : World) (hr0 : Kd.C (Kd.int .i64) w A0 l0.length l0) (hc0 : l0.length ≤ c0) (h : palingref21_free.f k l0 a1 = some r) :
    Calls Tryd.prog 20 #[.slice A0 l0.length c0, .int .i64 a1] w fun e w' => e = .returned (.int .i64 r) ∧ Drawn0 w w' := by
 have HR0 := Aside0.mk hr0
 have HC0 := Aside0.mk hc0
 clear hr0 hc0
 have H : (palingref21_free.l0 k l0 a1 0) = some r := h
 clear h
 have H' := Aside0.mk H
 clear H
 go_enter Tryd.func20, Tryd.ntmps20
 go_wp2
 go_loopg [5] k (fun kq v5 w' => ∃ (x5_1 : Int), v5 = .int .i64 x5_1 ∧ Aside0 (palingref21_free.l0 kq l0 a1 x5_1 = some r) ∧ Aside0 (kq ≤ k) ∧ Drawn0 w w')
 case atStart => exact ⟨(0), aq7, H', ⟨Nat.le_refl _⟩, aq16⟩
 case round =>
  clear H'
  obtain ⟨x5_1, rfl, HA, HK1, ⟨m1, rfl⟩⟩ := hrel
  cases gk with
  | zero => exact absurd HA.out (by simp [palingref21_free.l0])
  | succ k1 =>
   have H := HA.out
   clear HA
   simp only [palingref21_free.l0] at H
   by_cases c3 : x5_1 < a1
   rotate_left
   ·rw [if_neg c3] at H
    have c3b0 : decide (x5_1 < a1) = false := decide_eq_false c3
    clear c3
    obtain rfl := Option.some.inj H
    go_wp2
    go_ret
    exact ⟨aq7, aq16⟩
   rw [if_pos c3] at H
   have c3b0 : decide (x5_1 < a1) = true := decide_eq_true c3
   clear c3
   have H' := Aside0.mk H
   clear H
   go_wp2
   go_loopg [6, 7] k1 (fun kq v6 v7 w' => ∃ (x6_2 : Bool) (x7_2 : Int), v6 = .bool x6_2 ∧ v7 = .int .i64 x7_2 ∧ Aside0 (palingref21_free.l1 kq l0 a1 x5_1 x6_2 x7_2 = some r) ∧ Aside0 (kq ≤ k1) ∧ Drawn0 w w')
   case atStart => exact ⟨(false), (0), aq7, aq7, H', ⟨Nat.le_refl _⟩, aq16⟩
   case round =>
    clear H'
    obtain ⟨x6_2, x7_2, rfl, rfl, HA, HK2, ⟨m2, rfl⟩⟩ := hrel
    cases gk with
    | zero => exact absurd HA.out (by simp [palingref21_free.l1])
    | succ k2 =>
     have H := HA.out
     clear HA
     simp only [palingref21_free.l1] at H
     by_cases c4 : x7_2 < (l0.length : Int)
     rotate_left
     ·rw [if_neg c4] at H
      have c4b0 : decide (x7_2 < (l0.length : Int)) = false := decide_eq_false c4
      clear c4
      by_cases c7 : x6_2 = true
      rotate_left
      ·replace c7 := Bool.eq_false_iff.mpr c7
       subst c7
       rw [if_neg nf_] at H
       obtain rfl := Option.some.inj H
       go_wp2
       go_ret
       exact ⟨aq7, aq16⟩
      subst c7
      rw [if_pos rfl] at H
      have H' := Aside0.mk H
      clear H
      go_wp2
      go_roundg k2
      case measure => have := HK1.out; have := HK2.out; omega
      case rel => exact ⟨(wrap64 (x5_1 + 1)), aq7, H', ⟨aq42⟩, aq16⟩
     rw [if_pos c4] at H
     have c4b0 : decide (x7_2 < (l0.length : Int)) = true := decide_eq_true c4
     clear c4
     by_cases c5 : x6_2 = true
     ·subst c5
      rw [if_pos rfl] at H
      have H' := Aside0.mk H
      clear H
      go_wp2
      go_roundg k2
      case measure => have := HK1.out; have := HK2.out; omega
      case rel => exact ⟨(true), (wrap64 (x7_2 + 1)), aq7, aq7, H', ⟨aq42⟩, aq16⟩
     replace c5 := Bool.eq_false_iff.mpr c5
     subst c5
     rw [if_neg nf_] at H
     by_cases c6 : 0 ≤ x7_2
     rotate_left
     ·rw [if_neg c6] at H
      exact absurd H (by simp)
     rw [if_pos c6] at H
     have c6b0 : decide (0 ≤ x7_2) = true := decide_eq_true c6
     clear c6
     have H' := Aside0.mk H
     clear H
     have p407 : 0 ≤ (x7_2 : Int) := of_decide_eq_true aq2
     have q407 : x7_2 < (l0.length : Int) := of_decide_eq_true aq2
     obtain ⟨ad407, e407, hx407_0⟩ := Kd.at_int HR0.out x7_2 p407 q407
     cases e407
     replace p407 := eq_true p407
     replace q407 := eq_true q407
     go_wp2
     go_roundg k2
     case measure => have := HK1.out; have := HK2.out; omega
     case rel => exact ⟨(((rd l0 x7_2) == x5_1)), (wrap64 (x7_2 + 1)), aq7, aq7, H', ⟨aq42⟩, aq16⟩
/-! ### palingref21_worst: function 21 -/
def palingref21_worst.l0 : Nat → List (S54) → List Int → Int → Int → Int → Option (Int)
  | 0, _, _, _, _, _ => none
  | k + 1, x0, x1, x2, x7, x8 => if x8 < x2 then (if 0 ≤ x8 then (if x8 < (x1.length : Int) then (if (rd x1 x8) ≥ 0 then (if x8 < (x0.length : Int) then (if 0 ≤ x7 then (if x7 < (x0.length : Int) then (if ((rd_T54 x0 x8).f2) > ((rd_T54 x0 x7).f2) then (palingref21_worst.l0 k x0 x1 x2 x8 (wrap64 (x8 + 1))) else (if ((rd_T54 x0 x8).f2) = ((rd_T54 x0 x7).f2) then (if ((rd_T54 x0 x8).f0) > ((rd_T54 x0 x7).f0) then (palingref21_worst.l0 k x0 x1 x2 x8 (wrap64 (x8 + 1))) else (palingref21_worst.l0 k x0 x1 x2 x7 (wrap64 (x8 + 1)))) else (palingref21_worst.l0 k x0 x1 x2 x7 (wrap64 (x8 + 1))))) else (none)) else (none)) else (none)) else (palingref21_worst.l0 k x0 x1 x2 x7 (wrap64 (x8 + 1)))) else (none)) else (none)) else (some x7)
def palingref21_worst.f (k : Nat) (l0 : List (S54)) (l1 : List Int) (a2 : Int) : Option (Int) := palingref21_worst.l0 k l0 l1 a2 a2 0
theorem palingref21_worst.mono_l : ∀ k, (∀ y0 y1 y2 y3 y4, LeO (palingref21_worst.l0 k y0 y1 y2 y3 y4) (palingref21_worst.l0 (k + 1) y0 y1 y2 y3 y4))
  | 0 => fun _ _ _ _ _ r h => by simp [palingref21_worst.l0] at h
  | k + 1 => by
    have ih0 := palingref21_worst.mono_l k
    intros <;> unfold palingref21_worst.l0 <;> repeat' (first | (with_reducible first | exact ih0 _ _ _ _ _ | exact LeO.refl _ | exact LeO.none _ | refine LeO.ite ?_ ?_ | refine LeO.bind ?_ (fun _ => ?_)) | exact ih0 _ _ _ _ _ | exact LeO.none _ | refine LeO.ite ?_ ?_ | refine LeO.bind ?_ (fun _ => ?_))
theorem palingref21_worst.mono : ∀ a0 a1 a2 k, LeO (palingref21_worst.f k a0 a1 a2) (palingref21_worst.f (k + 1) a0 a1 a2) := by
 intro a0 a1 a2 k
 have ih0 := palingref21_worst.mono_l k
 unfold palingref21_worst.f
 repeat' (first | (with_reducible first | exact ih0 _ _ _ _ _ | exact LeO.refl _ | exact LeO.none _ | refine LeO.ite ?_ ?_ | refine LeO.bind ?_ (fun _ => ?_)) | exact ih0 _ _ _ _ _ | exact LeO.none _ | refine LeO.ite ?_ ?_ | refine LeO.bind ?_ (fun _ => ?_))
set_option maxHeartbeats 8000000 in
set_option maxRecDepth 100000 in
theorem palingref21_worst.calls (k : Nat) (A0 : Option Addr) (c0 : Nat) (l0 : List (S54)) (A1 : Option Addr) (c1 : Nat) (l1 : List Int) (a2 : Int) (r : Int) (w : World) (hr0 : Kd.C k54 w A0 l0.length l0) (hc0 : l0.length ≤ c0) (hr1 : Kd.C (Kd.int .i64) w A1 l1.length l1) (hc1 : l1.length ≤ c1) (h : palingref21_worst.f k l0 l1 a2 = some r) :
    Calls Tryd.prog 21 #[.slice A0 l0.length c0, .slice A1 l1.length c1, .int .i64 a2] w fun e w' => e = .returned (.int .i64 r) ∧ Drawn0 w w' := by
 have HR0 := Aside0.mk hr0
 have HC0 := Aside0.mk hc0
 clear hr0 hc0
 have HR1 := Aside0.mk hr1
 have HC1 := Aside0.mk hc1
 clear hr1 hc1
 have H : (palingref21_worst.l0 k l0 l1 a2 a2 0) = some r := h
 clear h
 have H' := Aside0.mk H
 clear H
 go_enter Tryd.func21, Tryd.ntmps21
 go_wp2
 repeat (go_quiet (fail); try go_wp2)
 go_loopg [7, 8] k (fun kq v7 v8 w' => ∃ (x7_1 : Int) (x8_1 : Int), v7 = .int .i64 x7_1 ∧ v8 = .int .i64 x8_1 ∧ Aside0 (palingref21_worst.l0 kq l0 l1 a2 x7_1 x8_1 = some r) ∧ Aside0 (kq ≤ k) ∧ Drawn0 w w')
 case atStart => exact ⟨(a2), (0), aq7, aq7, H', ⟨Nat.le_refl _⟩, aq16⟩
 case round =>
  clear H'
  obtain ⟨x7_1, x8_1, rfl, rfl, HA, HK1, ⟨m1, rfl⟩⟩ := hrel
  cases gk with
  | zero => exact absurd HA.out (by simp [palingref21_worst.l0])
  | succ k1 =>
   have H := HA.out
   clear HA
   simp only [palingref21_worst.l0] at H
   by_cases c4 : x8_1 < a2
   rotate_left
   ·rw [if_neg c4] at H
    have c4b0 : decide (x8_1 < a2) = false := decide_eq_false c4
    clear c4
    obtain rfl := Option.some.inj H
    go_wp2
    repeat (go_quiet (fail); try go_wp2)
    go_ret
    exact ⟨aq7, aq16⟩
   rw [if_pos c4] at H
   have c4b0 : decide (x8_1 < a2) = true := decide_eq_true c4
   clear c4
   by_cases c5 : 0 ≤ x8_1
   rotate_left
   ·rw [if_neg c5] at H
    exact absurd H (by simp)
   rw [if_pos c5] at H
   have c5b0 : decide (0 ≤ x8_1) = true := decide_eq_true c5
   clear c5
   by_cases c6 : x8_1 < (l1.length : Int)
   rotate_left
   ·rw [if_neg c6] at H
    exact absurd H (by simp)
   rw [if_pos c6] at H
   have c6b0 : decide (x8_1 < (l1.length : Int)) = true := decide_eq_true c6
   clear c6
   by_cases c7 : (rd l1 x8_1) ≥ 0
   rotate_left
   ·rw [if_neg c7] at H
    have c7b0 : decide (0 ≤ (rd l1 x8_1)) = false := decide_eq_false c7
    clear c7
    have H' := Aside0.mk H
    clear H
    have p408 : 0 ≤ (x8_1 : Int) := of_decide_eq_true aq2
    have q408 : x8_1 < (l1.length : Int) := of_decide_eq_true aq2
    obtain ⟨ad408, e408, hx408_0⟩ := Kd.at_int HR1.out x8_1 p408 q408
    cases e408
    replace p408 := eq_true p408
    replace q408 := eq_true q408
    go_wp2
    repeat (go_quiet (fail); try go_wp2)
    go_roundg k1
    case measure => have := HK1.out; omega
    case rel => exact ⟨(x7_1), (wrap64 (x8_1 + 1)), aq7, aq7, H', ⟨aq55⟩, aq16⟩
   rw [if_pos c7] at H
   have c7b0 : decide (0 ≤ (rd l1 x8_1)) = true := decide_eq_true c7
   clear c7
   by_cases c8 : x8_1 < (l0.length : Int)
   rotate_left
   ·rw [if_neg c8] at H
    exact absurd H (by simp)
   rw [if_pos c8] at H
   have c8b0 : decide (x8_1 < (l0.length : Int)) = true := decide_eq_true c8
   clear c8
   by_cases c9 : 0 ≤ x7_1
   rotate_left
   ·rw [if_neg c9] at H
    exact absurd H (by simp)
   rw [if_pos c9] at H
   have c9b0 : decide (0 ≤ x7_1) = true := decide_eq_true c9
   clear c9
   by_cases c10 : x7_1 < (l0.length : Int)
   rotate_left
   ·rw [if_neg c10] at H
    exact absurd H (by simp)
   rw [if_pos c10] at H
   have c10b0 : decide (x7_1 < (l0.length : Int)) = true := decide_eq_true c10
   clear c10
   by_cases c11 : ((rd_T54 l0 x8_1).f2) > ((rd_T54 l0 x7_1).f2)
   ·rw [if_pos c11] at H
    have c11b0 : decide (((rd_T54 l0 x7_1).f2) < ((rd_T54 l0 x8_1).f2)) = true := decide_eq_true c11
    clear c11
    have H' := Aside0.mk H
    clear H
    have p408 : 0 ≤ (x8_1 : Int) := of_decide_eq_true aq2
    have q408 : x8_1 < (l1.length : Int) := of_decide_eq_true aq2
    obtain ⟨ad408, e408, hx408_0⟩ := Kd.at_int HR1.out x8_1 p408 q408
    cases e408
    replace p408 := eq_true p408
    replace q408 := eq_true q408
    have p409 : 0 ≤ (x8_1 : Int) := of_decide_eq_true aq2
    have q409 : x8_1 < (l0.length : Int) := of_decide_eq_true aq2
    obtain ⟨ad409, e409, hx409_0, hx409_1, hx409_2⟩ := at_T54 HR0.out x8_1 p409 q409
    cases e409
    replace p409 := eq_true p409
    replace q409 := eq_true q409
    have p410 : 0 ≤ (x7_1 : Int) := of_decide_eq_true aq2
    have q410 : x7_1 < (l0.length : Int) := of_decide_eq_true aq2
    obtain ⟨ad410, e410, hx410_0, hx410_1, hx410_2⟩ := at_T54 HR0.out x7_1 p410 q410
    obtain rfl : ad409 = ad410 := (by injection e410)
    replace p410 := eq_true p410
    replace q410 := eq_true q410
    go_wp2
    repeat (go_quiet (fail); try go_wp2)
    go_roundg k1
    case measure => have := HK1.out; omega
    case rel => exact ⟨(x8_1), (wrap64 (x8_1 + 1)), aq7, aq7, H', ⟨aq55⟩, aq16⟩
   rw [if_neg c11] at H
   have c11b0 : decide (((rd_T54 l0 x7_1).f2) < ((rd_T54 l0 x8_1).f2)) = false := decide_eq_false c11
   clear c11
   by_cases c12 : ((rd_T54 l0 x8_1).f2) = ((rd_T54 l0 x7_1).f2)
   rotate_left
   ·rw [if_neg c12] at H
    have c12b0 : (((rd_T54 l0 x8_1).f2) == ((rd_T54 l0 x7_1).f2)) = false := beq_eq_false_iff_ne.mpr c12
    have c12b1 : (((rd_T54 l0 x8_1).f2) != ((rd_T54 l0 x7_1).f2)) = true := bne_iff_ne.mpr c12
    have H' := Aside0.mk H
    clear H
    have p408 : 0 ≤ (x8_1 : Int) := of_decide_eq_true aq2
    have q408 : x8_1 < (l1.length : Int) := of_decide_eq_true aq2
    obtain ⟨ad408, e408, hx408_0⟩ := Kd.at_int HR1.out x8_1 p408 q408
    cases e408
    replace p408 := eq_true p408
    replace q408 := eq_true q408
    have p409 : 0 ≤ (x8_1 : Int) := of_decide_eq_true aq2
    have q409 : x8_1 < (l0.length : Int) := of_decide_eq_true aq2
    obtain ⟨ad409, e409, hx409_0, hx409_1, hx409_2⟩ := at_T54 HR0.out x8_1 p409 q409
    cases e409
    replace p409 := eq_true p409
    replace q409 := eq_true q409
    have p410 : 0 ≤ (x7_1 : Int) := of_decide_eq_true aq2
    have q410 : x7_1 < (l0.length : Int) := of_decide_eq_true aq2
    obtain ⟨ad410, e410, hx410_0, hx410_1, hx410_2⟩ := at_T54 HR0.out x7_1 p410 q410
    obtain rfl : ad409 = ad410 := (by injection e410)
    replace p410 := eq_true p410
    replace q410 := eq_true q410
    have p411 : 0 ≤ (x8_1 : Int) := of_decide_eq_true aq2
    have q411 : x8_1 < (l0.length : Int) := of_decide_eq_true aq2
    obtain ⟨ad411, e411, hx411_0, hx411_1, hx411_2⟩ := at_T54 HR0.out x8_1 p411 q411
    obtain rfl : ad409 = ad411 := (by injection e411)
    replace p411 := eq_true p411
    replace q411 := eq_true q411
    have p412 : 0 ≤ (x7_1 : Int) := of_decide_eq_true aq2
    have q412 : x7_1 < (l0.length : Int) := of_decide_eq_true aq2
    obtain ⟨ad412, e412, hx412_0, hx412_1, hx412_2⟩ := at_T54 HR0.out x7_1 p412 q412
    obtain rfl : ad409 = ad412 := (by injection e412)
    replace p412 := eq_true p412
    replace q412 := eq_true q412
    go_wp2
    repeat (go_quiet (fail); try go_wp2)
    go_roundg k1
    case measure => have := HK1.out; omega
    case rel => exact ⟨(x7_1), (wrap64 (x8_1 + 1)), aq7, aq7, H', ⟨aq55⟩, aq16⟩
   rw [if_pos c12] at H
   have c12b0 : (((rd_T54 l0 x8_1).f2) == ((rd_T54 l0 x7_1).f2)) = true := beq_iff_eq.mpr c12
   have c12b1 : (((rd_T54 l0 x8_1).f2) != ((rd_T54 l0 x7_1).f2)) = false := bne_eq_false_iff_eq.mpr c12
   clear c12
   by_cases c13 : ((rd_T54 l0 x8_1).f0) > ((rd_T54 l0 x7_1).f0)
   ·rw [if_pos c13] at H
    have c13b0 : decide (((rd_T54 l0 x7_1).f0) < ((rd_T54 l0 x8_1).f0)) = true := decide_eq_true c13
    clear c13
    have H' := Aside0.mk H
    clear H
    have p408 : 0 ≤ (x8_1 : Int) := of_decide_eq_true aq2
    have q408 : x8_1 < (l1.length : Int) := of_decide_eq_true aq2
    obtain ⟨ad408, e408, hx408_0⟩ := Kd.at_int HR1.out x8_1 p408 q408
    cases e408
    replace p408 := eq_true p408
    replace q408 := eq_true q408
    have p409 : 0 ≤ (x8_1 : Int) := of_decide_eq_true aq2
    have q409 : x8_1 < (l0.length : Int) := of_decide_eq_true aq2
    obtain ⟨ad409, e409, hx409_0, hx409_1, hx409_2⟩ := at_T54 HR0.out x8_1 p409 q409
    cases e409
    replace p409 := eq_true p409
    replace q409 := eq_true q409
    have p410 : 0 ≤ (x7_1 : Int) := of_decide_eq_true aq2
    have q410 : x7_1 < (l0.length : Int) := of_decide_eq_true aq2
    obtain ⟨ad410, e410, hx410_0, hx410_1, hx410_2⟩ := at_T54 HR0.out x7_1 p410 q410
    obtain rfl : ad409 = ad410 := (by injection e410)
    replace p410 := eq_true p410
    replace q410 := eq_true q410
    have p411 : 0 ≤ (x8_1 : Int) := of_decide_eq_true aq2
    have q411 : x8_1 < (l0.length : Int) := of_decide_eq_true aq2
    obtain ⟨ad411, e411, hx411_0, hx411_1, hx411_2⟩ := at_T54 HR0.out x8_1 p411 q411
    obtain rfl : ad409 = ad411 := (by injection e411)
    replace p411 := eq_true p411
    replace q411 := eq_true q411
    have p412 : 0 ≤ (x7_1 : Int) := of_decide_eq_true aq2
    have q412 : x7_1 < (l0.length : Int) := of_decide_eq_true aq2
    obtain ⟨ad412, e412, hx412_0, hx412_1, hx412_2⟩ := at_T54 HR0.out x7_1 p412 q412
    obtain rfl : ad409 = ad412 := (by injection e412)
    replace p412 := eq_true p412
    replace q412 := eq_true q412
    have p413 : 0 ≤ (x8_1 : Int) := of_decide_eq_true aq2
    have q413 : x8_1 < (l0.length : Int) := of_decide_eq_true aq2
    obtain ⟨ad413, e413, hx413_0, hx413_1, hx413_2⟩ := at_T54 HR0.out x8_1 p413 q413
    obtain rfl : ad409 = ad413 := (by injection e413)
    replace p413 := eq_true p413
    replace q413 := eq_true q413
    have p414 : 0 ≤ (x7_1 : Int) := of_decide_eq_true aq2
    have q414 : x7_1 < (l0.length : Int) := of_decide_eq_true aq2
    obtain ⟨ad414, e414, hx414_0, hx414_1, hx414_2⟩ := at_T54 HR0.out x7_1 p414 q414
    obtain rfl : ad409 = ad414 := (by injection e414)
    replace p414 := eq_true p414
    replace q414 := eq_true q414
    go_wp2
    repeat (go_quiet (fail); try go_wp2)
    go_roundg k1
    case measure => have := HK1.out; omega
    case rel => exact ⟨(x8_1), (wrap64 (x8_1 + 1)), aq7, aq7, H', ⟨aq55⟩, aq16⟩
   rw [if_neg c13] at H
   have c13b0 : decide (((rd_T54 l0 x7_1).f0) < ((rd_T54 l0 x8_1).f0)) = false := decide_eq_false c13
   clear c13
   have H' := Aside0.mk H
   clear H
   have p408 : 0 ≤ (x8_1 : Int) := of_decide_eq_true aq2
   have q408 : x8_1 < (l1.length : Int) := of_decide_eq_true aq2
   obtain ⟨ad408, e408, hx408_0⟩ := Kd.at_int HR1.out x8_1 p408 q408
   cases e408
   replace p408 := eq_true p408
   replace q408 := eq_true q408
   have p409 : 0 ≤ (x8_1 : Int) := of_decide_eq_true aq2
   have q409 : x8_1 < (l0.length : Int) := of_decide_eq_true aq2
   obtain ⟨ad409, e409, hx409_0, hx409_1, hx409_2⟩ := at_T54 HR0.out x8_1 p409 q409
   cases e409
   replace p409 := eq_true p409
   replace q409 := eq_true q409
   have p410 : 0 ≤ (x7_1 : Int) := of_decide_eq_true aq2
   have q410 : x7_1 < (l0.length : Int) := of_decide_eq_true aq2
   obtain ⟨ad410, e410, hx410_0, hx410_1, hx410_2⟩ := at_T54 HR0.out x7_1 p410 q410
   obtain rfl : ad409 = ad410 := (by injection e410)
   replace p410 := eq_true p410
   replace q410 := eq_true q410
   have p411 : 0 ≤ (x8_1 : Int) := of_decide_eq_true aq2
   have q411 : x8_1 < (l0.length : Int) := of_decide_eq_true aq2
   obtain ⟨ad411, e411, hx411_0, hx411_1, hx411_2⟩ := at_T54 HR0.out x8_1 p411 q411
   obtain rfl : ad409 = ad411 := (by injection e411)
   replace p411 := eq_true p411
   replace q411 := eq_true q411
   have p412 : 0 ≤ (x7_1 : Int) := of_decide_eq_true aq2
   have q412 : x7_1 < (l0.length : Int) := of_decide_eq_true aq2
   obtain ⟨ad412, e412, hx412_0, hx412_1, hx412_2⟩ := at_T54 HR0.out x7_1 p412 q412
   obtain rfl : ad409 = ad412 := (by injection e412)
   replace p412 := eq_true p412
   replace q412 := eq_true q412
   have p413 : 0 ≤ (x8_1 : Int) := of_decide_eq_true aq2
   have q413 : x8_1 < (l0.length : Int) := of_decide_eq_true aq2
   obtain ⟨ad413, e413, hx413_0, hx413_1, hx413_2⟩ := at_T54 HR0.out x8_1 p413 q413
   obtain rfl : ad409 = ad413 := (by injection e413)
   replace p413 := eq_true p413
   replace q413 := eq_true q413
   have p414 : 0 ≤ (x7_1 : Int) := of_decide_eq_true aq2
   have q414 : x7_1 < (l0.length : Int) := of_decide_eq_true aq2
   obtain ⟨ad414, e414, hx414_0, hx414_1, hx414_2⟩ := at_T54 HR0.out x7_1 p414 q414
   obtain rfl : ad409 = ad414 := (by injection e414)
   replace p414 := eq_true p414
   replace q414 := eq_true q414
   go_wp2
   repeat (go_quiet (fail); try go_wp2)
   go_roundg k1
   case measure => have := HK1.out; omega
   case rel => exact ⟨(x7_1), (wrap64 (x8_1 + 1)), aq7, aq7, H', ⟨aq55⟩, aq16⟩
end Go.Proofs.YtpbhfpbfmpocdaaDoor.PSpillNone
