-- Written by print2.py over the kit's printer. Not trusted: Lean checks it.
import Derived.Test.YtianfjhhhhmjlaaDoorPLiveTellshqq
import Derived.Test.YtianfjhhhhmjlaaDoorPLiveTellshmid
import Derived.Test.YtianfjhhhhmjlaaDoorPLiveTellsx0
import Derived.Test.YtianfjhhhhmjlaaDoorPLiveTellsx1
import Derived.Test.YtianfjhhhhmjlaaDoorPLiveTellshlahead
import Derived.Test.YtianfjhhhhmjlaaDoorPLiveTellshlmost
import Derived.Test.YtianfjhhhhmjlaaDoorPLiveTellshlranges
namespace Go.Proofs.YtianfjhhhhmjlaaDoor.PLiveTells
open Go.RowKit Go.Proofs.YtianfjhhhhmjlaaDoorW.PrintWords Go.Proofs.YtianfjhhhhmjlaaDoorW.PrintLast Go.Proofs.YtianfjhhhhmjlaaDoorW.PrintMore
attribute [local go_sem] max2_int min2_int max_two min_two max_three min_three max_four min_four   -- for this text's walks alone
set_option linter.unusedVariables false
set_option linter.unusedSimpArgs false

attribute [local go_sem high] eqA30
/-! ### palingref14_Ints: function 23 -/
def palingref14_Ints.l0 : Nat → List Int → List Int → Int → Option (Bool)
  | 0, _, _, _ => none
  | k + 1, x0, x1, x5 => if x5 < (x0.length : Int) then (if 0 ≤ x5 then (if x5 < (x1.length : Int) then (if (rd x0 x5) = (rd x1 x5) then (palingref14_Ints.l0 k x0 x1 (wrap64 (x5 + 1))) else (some false)) else (none)) else (none)) else (some true)
def palingref14_Ints.f (k : Nat) (l0 : List Int) (l1 : List Int) : Option (Bool) := if (l0.length : Int) = (l1.length : Int) then (palingref14_Ints.l0 k l0 l1 0) else (some false)
theorem palingref14_Ints.mono_l : ∀ k, (∀ y0 y1 y2, LeO (palingref14_Ints.l0 k y0 y1 y2) (palingref14_Ints.l0 (k + 1) y0 y1 y2))
  | 0 => fun _ _ _ r h => by simp [palingref14_Ints.l0] at h
  | k + 1 => by
    have ih0 := palingref14_Ints.mono_l k
    intros <;> unfold palingref14_Ints.l0 <;> repeat' (first | (with_reducible first | exact ih0 _ _ _ | exact LeO.refl _ | exact LeO.none _ | refine LeO.ite ?_ ?_ | refine LeO.bind ?_ (fun _ => ?_)) | exact ih0 _ _ _ | exact LeO.none _ | refine LeO.ite ?_ ?_ | refine LeO.bind ?_ (fun _ => ?_))
theorem palingref14_Ints.mono : ∀ a0 a1 k, LeO (palingref14_Ints.f k a0 a1) (palingref14_Ints.f (k + 1) a0 a1) := by
 intro a0 a1 k
 have ih0 := palingref14_Ints.mono_l k
 unfold palingref14_Ints.f
 repeat' (first | (with_reducible first | exact ih0 _ _ _ | exact LeO.refl _ | exact LeO.none _ | refine LeO.ite ?_ ?_ | refine LeO.bind ?_ (fun _ => ?_)) | exact ih0 _ _ _ | exact LeO.none _ | refine LeO.ite ?_ ?_ | refine LeO.bind ?_ (fun _ => ?_))
set_option maxHeartbeats 8000000 in
set_option maxRecDepth 100000 in
theorem palingref14_Ints.calls (k : Nat) (A0 : Option Addr) (c0 : Nat) (l0 : List Int) (A1 : Option Addr) (c1 : Nat) (l1 : List Int) (r : Bool) (w : World) (hr0 : Kd.C (Kd.int .i64) w A0 l0.length l0) (hc0 : l0.length ≤ c0) (hr1 : Kd.C (Kd.int .i64) w A1 l1.length l1) (hc1 : l1.length ≤ c1) (h : palingref14_Ints.f k l0 l1 = some r) :
    Calls Tryd.prog 23 #[.slice A0 l0.length c0, .slice A1 l1.length c1] w fun e w' => e = .returned (.bool r) ∧ Drawn0 w w' := by
 have HR0 := Aside0.mk hr0
 have HC0 := Aside0.mk hc0
 clear hr0 hc0
 have HR1 := Aside0.mk hr1
 have HC1 := Aside0.mk hc1
 clear hr1 hc1
 have H : (if (l0.length : Int) = (l1.length : Int) then (palingref14_Ints.l0 k l0 l1 0) else (some false)) = some r := h
 clear h
 by_cases c3 : (l0.length : Int) = (l1.length : Int)
 rotate_left
 ·rw [if_neg c3] at H
  have c3b0 : ((l0.length : Int) == (l1.length : Int)) = false := beq_eq_false_iff_ne.mpr c3
  have c3b1 : ((l0.length : Int) != (l1.length : Int)) = true := bne_iff_ne.mpr c3
  have c3b2 : (l0.length == l1.length) = false := by first | simpa using c3 | (simp at c3 ⊢; omega)
  obtain rfl := Option.some.inj H
  go_enter Tryd.func23, Tryd.ntmps23
  go_wp2
  repeat (go_quiet (fail); try go_wp2)
  go_ret
  exact ⟨aq9, aq21⟩
 rw [if_pos c3] at H
 have c3b0 : ((l0.length : Int) == (l1.length : Int)) = true := beq_iff_eq.mpr c3
 have c3b1 : ((l0.length : Int) != (l1.length : Int)) = false := bne_eq_false_iff_eq.mpr c3
 have c3b2 : (l0.length == l1.length) = true := by first | simpa using c3 | (simp at c3 ⊢; omega)
 clear c3
 have H' := Aside0.mk H
 clear H
 go_enter Tryd.func23, Tryd.ntmps23
 go_wp2
 repeat (go_quiet (fail); try go_wp2)
 go_loopg [5] k (fun kq v5 w' => ∃ (x5_1 : Int), v5 = .int .i64 x5_1 ∧ Aside0 (palingref14_Ints.l0 kq l0 l1 x5_1 = some r) ∧ Aside0 (kq ≤ k) ∧ Drawn0 w w')
 case atStart => exact ⟨(0), aq9, H', ⟨Nat.le_refl _⟩, aq21⟩
 case round =>
  clear H'
  obtain ⟨x5_1, rfl, HA, HK1, ⟨m1, rfl⟩⟩ := hrel
  cases gk with
  | zero => exact absurd HA.out (by simp [palingref14_Ints.l0])
  | succ k1 =>
   have H := HA.out
   clear HA
   simp only [palingref14_Ints.l0] at H
   by_cases c4 : x5_1 < (l0.length : Int)
   rotate_left
   ·rw [if_neg c4] at H
    have c4b0 : decide (x5_1 < (l0.length : Int)) = false := decide_eq_false c4
    clear c4
    obtain rfl := Option.some.inj H
    go_wp2
    repeat (go_quiet (fail); try go_wp2)
    go_ret
    exact ⟨aq9, aq21⟩
   rw [if_pos c4] at H
   have c4b0 : decide (x5_1 < (l0.length : Int)) = true := decide_eq_true c4
   clear c4
   by_cases c5 : 0 ≤ x5_1
   rotate_left
   ·rw [if_neg c5] at H
    exact absurd H (by simp)
   rw [if_pos c5] at H
   have c5b0 : decide (0 ≤ x5_1) = true := decide_eq_true c5
   clear c5
   by_cases c6 : x5_1 < (l1.length : Int)
   rotate_left
   ·rw [if_neg c6] at H
    exact absurd H (by simp)
   rw [if_pos c6] at H
   have c6b0 : decide (x5_1 < (l1.length : Int)) = true := decide_eq_true c6
   clear c6
   by_cases c7 : (rd l0 x5_1) = (rd l1 x5_1)
   rotate_left
   ·rw [if_neg c7] at H
    have c7b0 : ((rd l0 x5_1) == (rd l1 x5_1)) = false := beq_eq_false_iff_ne.mpr c7
    have c7b1 : ((rd l0 x5_1) != (rd l1 x5_1)) = true := bne_iff_ne.mpr c7
    obtain rfl := Option.some.inj H
    have p101 : 0 ≤ (x5_1 : Int) := of_decide_eq_true aq1
    have q101 : x5_1 < (l0.length : Int) := of_decide_eq_true aq1
    obtain ⟨ad101, e101, hx101_0⟩ := Kd.at_int HR0.out x5_1 p101 q101
    cases e101
    replace p101 := eq_true p101
    replace q101 := eq_true q101
    have p102 : 0 ≤ (x5_1 : Int) := of_decide_eq_true aq1
    have q102 : x5_1 < (l1.length : Int) := of_decide_eq_true aq1
    obtain ⟨ad102, e102, hx102_0⟩ := Kd.at_int HR1.out x5_1 p102 q102
    cases e102
    replace p102 := eq_true p102
    replace q102 := eq_true q102
    go_wp2
    repeat (go_quiet (fail); try go_wp2)
    go_ret
    exact ⟨aq9, aq21⟩
   rw [if_pos c7] at H
   have c7b0 : ((rd l0 x5_1) == (rd l1 x5_1)) = true := beq_iff_eq.mpr c7
   have c7b1 : ((rd l0 x5_1) != (rd l1 x5_1)) = false := bne_eq_false_iff_eq.mpr c7
   clear c7
   have H' := Aside0.mk H
   clear H
   have p101 : 0 ≤ (x5_1 : Int) := of_decide_eq_true aq1
   have q101 : x5_1 < (l0.length : Int) := of_decide_eq_true aq1
   obtain ⟨ad101, e101, hx101_0⟩ := Kd.at_int HR0.out x5_1 p101 q101
   cases e101
   replace p101 := eq_true p101
   replace q101 := eq_true q101
   have p102 : 0 ≤ (x5_1 : Int) := of_decide_eq_true aq1
   have q102 : x5_1 < (l1.length : Int) := of_decide_eq_true aq1
   obtain ⟨ad102, e102, hx102_0⟩ := Kd.at_int HR1.out x5_1 p102 q102
   cases e102
   replace p102 := eq_true p102
   replace q102 := eq_true q102
   go_wp2
   repeat (go_quiet (fail); try go_wp2)
   go_roundg k1
   case measure => have := HK1.out; omega
   case rel => exact ⟨(wrap64 (x5_1 + 1)), aq9, H', ⟨aq60⟩, aq21⟩
/-! ### palinglaw15_awake: function 7 -/
def palinglaw15_awake.f (k : Nat)  : Option (Bool) := (some (([(⟨0, 0, 0, 0, 0, 1, 0⟩ : S39), (⟨11, 0, 0, 0, 0, 0, 0⟩ : S39), (⟨13, 0, 0, 0, 0, 0, 0⟩ : S39)] : List (S39)) : List (S39))).bind fun y103 => ((live_Ahead.f k y103).bind fun t106 => ((live_Behind.f k y103).bind fun t109 => ((live_Ranges.f k y103).bind fun t112 => (if (t106.length : Int) = 3 then (if (t109.length : Int) = 3 then (if 0 < (t106.length : Int) then (if ((rd_L5 t106 0).length : Int) = 0 then (if 1 < (t106.length : Int) then ((palingref14_Ints.f k (rd_L5 t106 1) (([0] : List Int))).bind fun t120 => (if t120 = true then (if 0 < (t109.length : Int) then ((palingref14_Ints.f k (rd_L5 t109 0) (([0] : List Int))).bind fun t125 => (if t125 = true then (if (t112.length : Int) = 1 then (if 0 < (t112.length : Int) then (if (((rd_T30 t112 0).f0) == 0 && (((rd_T30 t112 0).f1) == 0 && (((rd_T30 t112 0).f2) == 1))) = true then ((live_Most.f k y103).bind fun t127 => (some (t127 == 1))) else (none)) else (none)) else (none)) else (none))) else (none)) else (none))) else (none)) else (none)) else (none)) else (none)) else (none)))))
theorem palinglaw15_awake.mono : ∀ k, LeO (palinglaw15_awake.f k ) (palinglaw15_awake.f (k + 1) ) := by
 intro  k
 unfold palinglaw15_awake.f
 repeat' (first | (with_reducible first | exact live_Ahead.mono _ _ | exact live_Behind.mono _ _ | exact live_Most.mono _ _ | exact live_Ranges.mono _ _ | exact palingref14_Ints.mono _ _ _ | exact LeO.refl _ | exact LeO.none _ | refine LeO.ite ?_ ?_ | refine LeO.bind ?_ (fun _ => ?_)) | exact live_Ahead.mono _ _ | exact live_Behind.mono _ _ | exact live_Most.mono _ _ | exact live_Ranges.mono _ _ | exact palingref14_Ints.mono _ _ _ | exact LeO.none _ | refine LeO.ite ?_ ?_ | refine LeO.bind ?_ (fun _ => ?_))
set_option maxHeartbeats 8000000 in
set_option maxRecDepth 100000 in
theorem palinglaw15_awake.calls (k : Nat)  (r : Bool) (w : World) (h : palinglaw15_awake.f k  = some r) (hgl : GlobOK w) :
    Calls Tryd.prog 7 #[] w fun e w' => e = .returned (.bool r) ∧ Below w.heap.size w w' := by
 have hu39 := Tryd.underlying39
 have hu30 := Tryd.underlying30
 have HB := Aside0.mk (Below.refl w.heap.size w)
 have HGL := Aside0.mk hgl
 clear hgl
 have H : ((some (([(⟨0, 0, 0, 0, 0, 1, 0⟩ : S39), (⟨11, 0, 0, 0, 0, 0, 0⟩ : S39), (⟨13, 0, 0, 0, 0, 0, 0⟩ : S39)] : List (S39)) : List (S39))).bind fun y103 => ((live_Ahead.f k y103).bind fun t106 => ((live_Behind.f k y103).bind fun t109 => ((live_Ranges.f k y103).bind fun t112 => (if (t106.length : Int) = 3 then (if (t109.length : Int) = 3 then (if 0 < (t106.length : Int) then (if ((rd_L5 t106 0).length : Int) = 0 then (if 1 < (t106.length : Int) then ((palingref14_Ints.f k (rd_L5 t106 1) (([0] : List Int))).bind fun t120 => (if t120 = true then (if 0 < (t109.length : Int) then ((palingref14_Ints.f k (rd_L5 t109 0) (([0] : List Int))).bind fun t125 => (if t125 = true then (if (t112.length : Int) = 1 then (if 0 < (t112.length : Int) then (if (((rd_T30 t112 0).f0) == 0 && (((rd_T30 t112 0).f1) == 0 && (((rd_T30 t112 0).f2) == 1))) = true then ((live_Most.f k y103).bind fun t127 => (some (t127 == 1))) else (none)) else (none)) else (none)) else (none))) else (none)) else (none))) else (none)) else (none)) else (none)) else (none)) else (none)))))) = some r := h
 clear h
 obtain ⟨y103, hy_⟩ : ∃ y_ : List (S39), y_ = (([(⟨0, 0, 0, 0, 0, 1, 0⟩ : S39), (⟨11, 0, 0, 0, 0, 0, 0⟩ : S39), (⟨13, 0, 0, 0, 0, 0, 0⟩ : S39)] : List (S39))) := ⟨_, rfl⟩
 replace H : ((live_Ahead.f k y103).bind fun t106 => ((live_Behind.f k y103).bind fun t109 => ((live_Ranges.f k y103).bind fun t112 => (if (t106.length : Int) = 3 then (if (t109.length : Int) = 3 then (if 0 < (t106.length : Int) then (if ((rd_L5 t106 0).length : Int) = 0 then (if 1 < (t106.length : Int) then ((palingref14_Ints.f k (rd_L5 t106 1) (([0] : List Int))).bind fun t120 => (if t120 = true then (if 0 < (t109.length : Int) then ((palingref14_Ints.f k (rd_L5 t109 0) (([0] : List Int))).bind fun t125 => (if t125 = true then (if (t112.length : Int) = 1 then (if 0 < (t112.length : Int) then (if (((rd_T30 t112 0).f0) == 0 && (((rd_T30 t112 0).f1) == 0 && (((rd_T30 t112 0).f2) == 1))) = true then ((live_Most.f k y103).bind fun t127 => (some (t127 == 1))) else (none)) else (none)) else (none)) else (none))) else (none)) else (none))) else (none)) else (none)) else (none)) else (none)) else (none))))) = some r := aq2
 have Ny103 := Aside0.mk hy_
 clear hy_
 obtain ⟨t106, A1, H⟩ := bS_ H
 obtain ⟨t109, A2, H⟩ := bS_ H
 obtain ⟨t112, A3, H⟩ := bS_ H
 by_cases c4 : (t106.length : Int) = 3
 rotate_left
 ·rw [if_neg c4] at H
  have c4b0 : ((t106.length : Int) == 3) = false := beq_eq_false_iff_ne.mpr c4
  have c4b1 : ((t106.length : Int) != 3) = true := bne_iff_ne.mpr c4
  exact absurd H (by simp)
 rw [if_pos c4] at H
 have c4b0 : ((t106.length : Int) == 3) = true := beq_iff_eq.mpr c4
 have c4b1 : ((t106.length : Int) != 3) = false := bne_eq_false_iff_eq.mpr c4
 clear c4
 by_cases c5 : (t109.length : Int) = 3
 rotate_left
 ·rw [if_neg c5] at H
  have c5b0 : ((t109.length : Int) == 3) = false := beq_eq_false_iff_ne.mpr c5
  have c5b1 : ((t109.length : Int) != 3) = true := bne_iff_ne.mpr c5
  exact absurd H (by simp)
 rw [if_pos c5] at H
 have c5b0 : ((t109.length : Int) == 3) = true := beq_iff_eq.mpr c5
 have c5b1 : ((t109.length : Int) != 3) = false := bne_eq_false_iff_eq.mpr c5
 clear c5
 by_cases c6 : 0 < (t106.length : Int)
 rotate_left
 ·rw [if_neg c6] at H
  exact absurd H (by simp)
 rw [if_pos c6] at H
 have c6b0 : decide (0 < (t106.length : Int)) = true := decide_eq_true c6
 have c6b1 : decide (0 < t106.length) = true := decide_eq_true (by omega)
 clear c6
 by_cases c7 : ((rd_L5 t106 0).length : Int) = 0
 rotate_left
 ·rw [if_neg c7] at H
  have c7b0 : (((rd_L5 t106 0).length : Int) == 0) = false := beq_eq_false_iff_ne.mpr c7
  have c7b1 : (((rd_L5 t106 0).length : Int) != 0) = true := bne_iff_ne.mpr c7
  have c7b2 : ¬ ((rd_L5 t106 0) = []) := fun h_ => c7 (by rw [h_]; rfl)
  exact absurd H (by simp)
 rw [if_pos c7] at H
 have c7b0 : (((rd_L5 t106 0).length : Int) == 0) = true := beq_iff_eq.mpr c7
 have c7b1 : (((rd_L5 t106 0).length : Int) != 0) = false := bne_eq_false_iff_eq.mpr c7
 clear c7
 by_cases c8 : 1 < (t106.length : Int)
 rotate_left
 ·rw [if_neg c8] at H
  exact absurd H (by simp)
 rw [if_pos c8] at H
 have c8b0 : decide (1 < (t106.length : Int)) = true := decide_eq_true c8
 have c8b1 : decide (1 < t106.length) = true := decide_eq_true (by omega)
 clear c8
 obtain ⟨y117, hy_⟩ : ∃ y_ : List Int, y_ = (([0] : List Int)) := ⟨_, rfl⟩
 replace H : ((palingref14_Ints.f k (rd_L5 t106 1) y117).bind fun t120 => (if t120 = true then (if 0 < (t109.length : Int) then ((palingref14_Ints.f k (rd_L5 t109 0) (([0] : List Int))).bind fun t125 => (if t125 = true then (if (t112.length : Int) = 1 then (if 0 < (t112.length : Int) then (if (((rd_T30 t112 0).f0) == 0 && (((rd_T30 t112 0).f1) == 0 && (((rd_T30 t112 0).f2) == 1))) = true then ((live_Most.f k y103).bind fun t127 => (some (t127 == 1))) else (none)) else (none)) else (none)) else (none))) else (none)) else (none))) = some r := aq2
 have Ny117 := Aside0.mk hy_
 clear hy_
 obtain ⟨t120, A9, H⟩ := bS_ H
 by_cases c10 : t120 = true
 rotate_left
 ·replace c10 := Bool.eq_false_iff.mpr c10
  subst c10
  rw [if_neg nf_] at H
  exact absurd H (by simp)
 subst c10
 rw [if_pos rfl] at H
 by_cases c11 : 0 < (t109.length : Int)
 rotate_left
 ·rw [if_neg c11] at H
  exact absurd H (by simp)
 rw [if_pos c11] at H
 have c11b0 : decide (0 < (t109.length : Int)) = true := decide_eq_true c11
 have c11b1 : decide (0 < t109.length) = true := decide_eq_true (by omega)
 clear c11
 obtain ⟨y122, hy_⟩ : ∃ y_ : List Int, y_ = (([0] : List Int)) := ⟨_, rfl⟩
 replace H : ((palingref14_Ints.f k (rd_L5 t109 0) y122).bind fun t125 => (if t125 = true then (if (t112.length : Int) = 1 then (if 0 < (t112.length : Int) then (if (((rd_T30 t112 0).f0) == 0 && (((rd_T30 t112 0).f1) == 0 && (((rd_T30 t112 0).f2) == 1))) = true then ((live_Most.f k y103).bind fun t127 => (some (t127 == 1))) else (none)) else (none)) else (none)) else (none))) = some r := aq2
 have Ny122 := Aside0.mk hy_
 clear hy_
 obtain ⟨t125, A12, H⟩ := bS_ H
 by_cases c13 : t125 = true
 rotate_left
 ·replace c13 := Bool.eq_false_iff.mpr c13
  subst c13
  rw [if_neg nf_] at H
  exact absurd H (by simp)
 subst c13
 rw [if_pos rfl] at H
 by_cases c14 : (t112.length : Int) = 1
 rotate_left
 ·rw [if_neg c14] at H
  have c14b0 : ((t112.length : Int) == 1) = false := beq_eq_false_iff_ne.mpr c14
  have c14b1 : ((t112.length : Int) != 1) = true := bne_iff_ne.mpr c14
  exact absurd H (by simp)
 rw [if_pos c14] at H
 have c14b0 : ((t112.length : Int) == 1) = true := beq_iff_eq.mpr c14
 have c14b1 : ((t112.length : Int) != 1) = false := bne_eq_false_iff_eq.mpr c14
 clear c14
 by_cases c15 : 0 < (t112.length : Int)
 rotate_left
 ·rw [if_neg c15] at H
  exact absurd H (by simp)
 rw [if_pos c15] at H
 have c15b0 : decide (0 < (t112.length : Int)) = true := decide_eq_true c15
 have c15b1 : decide (0 < t112.length) = true := decide_eq_true (by omega)
 clear c15
 by_cases c16 : (((rd_T30 t112 0).f0) == 0 && (((rd_T30 t112 0).f1) == 0 && (((rd_T30 t112 0).f2) == 1))) = true
 rotate_left
 ·rw [if_neg c16] at H
  have c16b0 : (((rd_T30 t112 0).f0) == 0 && (((rd_T30 t112 0).f1) == 0 && (((rd_T30 t112 0).f2) == 1))) = false := by simpa using c16
  (try (have c16b1 : decide (((rd_T30 t112 0).f0) = 0 && (((rd_T30 t112 0).f1) == 0 && (((rd_T30 t112 0).f2) == 1))) = false := by simpa using c16))
  (try (have c16b2 : (((rd_T30 t112 0).f0) == 0 && (((rd_T30 t112 0).f1) == 0 && (((rd_T30 t112 0).f2) == 1))) = false := by simpa using c16))
  (try (have c16b3 : ¬ (((rd_T30 t112 0).f0) = 0 && (((rd_T30 t112 0).f1) == 0 && (((rd_T30 t112 0).f2) == 1))) := by simpa using c16))
  clear c16
  exact absurd H (by simp)
 rw [if_pos c16] at H
 have c16b0 : (((rd_T30 t112 0).f0) == 0 && (((rd_T30 t112 0).f1) == 0 && (((rd_T30 t112 0).f2) == 1))) = true := c16
 (try (have c16b1 : decide (((rd_T30 t112 0).f0) = 0 && (((rd_T30 t112 0).f1) == 0 && (((rd_T30 t112 0).f2) == 1))) = true := by simpa using c16))
 (try (have c16b2 : (((rd_T30 t112 0).f0) == 0 && (((rd_T30 t112 0).f1) == 0 && (((rd_T30 t112 0).f2) == 1))) = true := by simpa using c16))
 clear c16
 obtain ⟨t127, A17, H⟩ := bS_ H
 obtain rfl := Option.some.inj H
 go_enter Tryd.func7, Tryd.ntmps7
 go_wp2_with (first | ((with_reducible refine gate_dst (N := 8) rfl ?_); (try (refine gate_guard (by rfl) ?_; dsimp only)); refine Kd.R_lit k39 _ 39 ?hg (N := 8) ?hd (xs := ([(⟨0, 0, 0, 0, 0, 1, 0⟩ : S39), (⟨11, 0, 0, 0, 0, 0, 0⟩ : S39), (⟨13, 0, 0, 0, 0, 0, 0⟩ : S39)] : List (S39))) (inner := [.int .i64 0, .int .i64 0, .int .i64 0, .int .i64 0, .int .i64 0, .int .i64 1, .int .i64 0, .int .i64 11, .int .i64 0, .int .i64 0, .int .i64 0, .int .i64 0, .int .i64 0, .int .i64 0, .int .i64 13, .int .i64 0, .int .i64 0, .int .i64 0, .int .i64 0, .int .i64 0, .int .i64 0]) (ok := fun _ => True) (okp := fun _ => True) ?hr ?hp (fun _ hk => hk) trivial (Below.refl _ _) (Nat.le_refl _) (by simp) ?_; (case hd => rfl); (case hg => rfl); (case hr => first | (go_simp; done) | (go_simp; rfl)); (case hp => exact (Reps.c7 (show Kd.M k39 _ _ _ (⟨0, 0, 0, 0, 0, 1, 0⟩ : S39) [.int .i64 0, .int .i64 0, .int .i64 0, .int .i64 0, .int .i64 0, .int .i64 1, .int .i64 0] from (k39_mkM _ _ _ (⟨0, 0, 0, 0, 0, 1, 0⟩ : S39) )) (Reps.c7 (show Kd.M k39 _ _ _ (⟨11, 0, 0, 0, 0, 0, 0⟩ : S39) [.int .i64 11, .int .i64 0, .int .i64 0, .int .i64 0, .int .i64 0, .int .i64 0, .int .i64 0] from (k39_mkM _ _ _ (⟨11, 0, 0, 0, 0, 0, 0⟩ : S39) )) (Reps.c7 (show Kd.M k39 _ _ _ (⟨13, 0, 0, 0, 0, 0, 0⟩ : S39) [.int .i64 13, .int .i64 0, .int .i64 0, .int .i64 0, .int .i64 0, .int .i64 0, .int .i64 0] from (k39_mkM _ _ _ (⟨13, 0, 0, 0, 0, 0, 0⟩ : S39) )) (Reps.none _ _))))); intro v104 w18 ho19 hb hg_ hnew_; clear hg_ hnew_; (first | rw [← Ny103.out] at ho19 | (simp only [Int.reduceToNat] at ho19; rw [← Ny103.out] at ho19)); have HO105 := Aside0.mk (Kd.R_lower ho19 (below_size aq0)); replace HB := Aside0.mk (below_step aq0 hb); clear hb ho19; obtain ⟨Ao20, co20, eo20⟩ := Kd.R_slice HO105.out; subst eo20) | ((with_reducible refine gate_callee (f := 12) rfl ?_); refine goesL_ (some 10) rfl rfl Tryd.func12 (by kernel_rfl) rfl #[.slice Ao20 y103.length co20] rfl aq5 ?_; (with_reducible refine (live_Ahead.calls k _ _ y103 t106 _ ?side1 ?side2 A1.out (GlobOK.step HGL.out aq0)).mono ?_); (case side1 => repeat (first | exact (Kd.R_reads' HO105.out).2.2 | (with_reducible refine Kd.C_alloc ?_ _) | (with_reducible refine Kd.C_drewN ?_ _) | (with_reducible refine Kd.C_drew ?_))); (case side2 => exact (Kd.R_reads' HO105.out).2.1); rintro e w21 ⟨v107, rfl, ho0, hb⟩; refine ⟨_, rfl, ?_⟩; replace HO105 := Aside0.mk (Kd.R_below aq39 hb); have HO108 := Aside0.mk (Kd.S_lower ho0 (below_size aq0)); replace HB := Aside0.mk (below_step aq0 hb); (try clear hb); (try clear hb2); (try clear hk); (try clear hi); (try clear ho0)) | ((with_reducible refine gate_callee (f := 14) rfl ?_); refine goesL_ (some 12) rfl rfl Tryd.func14 (by kernel_rfl) rfl #[.slice Ao20 y103.length co20] rfl aq5 ?_; (with_reducible refine (live_Behind.calls k _ _ y103 t109 _ ?side1 ?side2 A2.out (GlobOK.step HGL.out aq0)).mono ?_); (case side1 => repeat (first | exact (Kd.R_reads' HO105.out).2.2 | (with_reducible refine Kd.C_alloc ?_ _) | (with_reducible refine Kd.C_drewN ?_ _) | (with_reducible refine Kd.C_drew ?_))); (case side2 => exact (Kd.R_reads' HO105.out).2.1); rintro e w22 ⟨v110, rfl, ho0, hb⟩; refine ⟨_, rfl, ?_⟩; replace HO105 := Aside0.mk (Kd.R_below aq39 hb); have HO111 := Aside0.mk (Kd.S_lower (Kd.S_new' ho0 (Kd.S_lt aq40)) (below_size aq0)); replace HO108 := Aside0.mk (Kd.S_elder' aq40 (Kd.S_base ho0) hb); replace HB := Aside0.mk (below_step aq0 hb); (try clear hb); (try clear hb2); (try clear hk); (try clear hi); (try clear ho0)) | ((with_reducible refine gate_callee (f := 9) rfl ?_); refine goesL_ (some 14) rfl rfl Tryd.func9 (by kernel_rfl) rfl #[.slice Ao20 y103.length co20] rfl aq5 ?_; (with_reducible refine (live_Ranges.calls k _ _ y103 t112 _ ?side1 ?side2 A3.out (GlobOK.step HGL.out aq0)).mono ?_); (case side1 => repeat (first | exact (Kd.R_reads' HO105.out).2.2 | (with_reducible refine Kd.C_alloc ?_ _) | (with_reducible refine Kd.C_drewN ?_ _) | (with_reducible refine Kd.C_drew ?_))); (case side2 => exact (Kd.R_reads' HO105.out).2.1); rintro e w23 ⟨v113, rfl, ho0, hb⟩; refine ⟨_, rfl, ?_⟩; replace HO105 := Aside0.mk (Kd.R_below aq39 hb); replace HO108 := Aside0.mk (Kd.S_below aq40 hb); replace HO111 := Aside0.mk (Kd.S_below aq50 hb); have HO114 := Aside0.mk (Kd.R_lower ho0 (below_size aq0)); replace HB := Aside0.mk (below_step aq0 hb); (try clear hb); (try clear hb2); (try clear hk); (try clear hi); (try clear ho0); obtain ⟨Ao24, co24, eo24⟩ := Kd.S_slice HO108.out; subst eo24; obtain ⟨Ao25, co25, eo25⟩ := Kd.S_slice HO111.out; subst eo25; have p115 : 0 ≤ (0 : Int) := (by omega); have q115 : 0 < (t106.length : Int) := of_decide_eq_true aq1; obtain ⟨ad115, A115_0, c115_0, e115, hx115_0, hl115_0, hi115_0⟩ := at_L5 (Kd.S_reads' HO108.out).2.2 0 p115 q115; cases e115; obtain ⟨ce115, hce115, hMe115, hcc115⟩ := Kd.S_get HO108.out [] 0 p115 (by first | exact q115 | exact of_decide_eq_true aq1 | (have e_ := (Kd.S_reads' HO108.out).1; omega)); obtain ⟨ve115_0, rfl, ge115_0⟩ := hMe115; have hv115_0 := hcc115 0 _ rfl; rw [Nat.add_zero, show ((Kd.slice 3 (Kd.int .i64))).sz = 1 from rfl, Nat.mul_one] at hv115_0; replace hv115_0 := Option.some.inj (hv115_0.symm.trans hx115_0); rw [hv115_0] at ge115_0; have HL115_0 := Aside0.mk (show Kd.R (Kd.int .i64) 3 _ _ _ _ (rd_L5 t106 0) from ge115_0); clear hv115_0 ge115_0; clear hcc115 hce115; have qi115 : (0 < t106.length) = True := eq_true (by omega); (try rw [show ((0 : Int)).toNat = 0 from rfl] at hx115_0); (try rw [Addr.add_zero'] at hx115_0); have HR115_0 := Aside0.mk hi115_0; have HC115_0 := Aside0.mk hl115_0; clear hi115_0 hl115_0; replace p115 := eq_true p115; replace q115 := eq_true q115; have p116 : 0 ≤ (1 : Int) := (by omega); have q116 : 1 < (t106.length : Int) := of_decide_eq_true aq1; obtain ⟨ad116, A116_0, c116_0, e116, hx116_0, hl116_0, hi116_0⟩ := at_L5 (Kd.S_reads' HO108.out).2.2 1 p116 q116; obtain rfl : ad115 = ad116 := (by injection e116); obtain ⟨ce116, hce116, hMe116, hcc116⟩ := Kd.S_get HO108.out [] 1 p116 (by first | exact q116 | exact of_decide_eq_true aq1 | (have e_ := (Kd.S_reads' HO108.out).1; omega)); obtain ⟨ve116_0, rfl, ge116_0⟩ := hMe116; have hv116_0 := hcc116 0 _ rfl; rw [Nat.add_zero, show ((Kd.slice 3 (Kd.int .i64))).sz = 1 from rfl, Nat.mul_one] at hv116_0; replace hv116_0 := Option.some.inj (hv116_0.symm.trans hx116_0); rw [hv116_0] at ge116_0; have HL116_0 := Aside0.mk (show Kd.R (Kd.int .i64) 3 _ _ _ _ (rd_L5 t106 1) from ge116_0); clear hv116_0 ge116_0; clear hcc116 hce116; (try simp only [show (1 : Int).toNat = 1 from rfl, Nat.reduceMul, Nat.reduceEqDiff, Go.Addr.add, ↓reduceIte] at hx116_0); have qi116 : (1 < t106.length) = True := eq_true (by omega); (try rw [show ((1 : Int)).toNat = 1 from rfl] at hx116_0); have HR116_0 := Aside0.mk hi116_0; have HC116_0 := Aside0.mk hl116_0; clear hi116_0 hl116_0; replace p116 := eq_true p116; replace q116 := eq_true q116) | ((with_reducible refine gate_dst (N := 34) rfl ?_); (try (refine gate_guard (by rfl) ?_; dsimp only)); refine Kd.R_lit (Kd.int .i64) _ 3 ?hg (N := 34) ?hd (xs := ([0] : List Int)) (inner := [.int .i64 0]) (ok := fun _ => True) (okp := fun _ => True) ?hr ?hp (fun _ hk => hk) trivial (Below.refl _ _) (Nat.le_refl _) (by simp) ?_; (case hd => rfl); (case hg => rfl); (case hr => first | (go_simp; done) | (go_simp; rfl)); (case hp => exact (Reps.one (show Kd.M (Kd.int .i64) _ _ _ 0 [.int .i64 0] from rfl) (Reps.none _ _))); intro v118 w26 ho27 hb hg_ hnew_; clear hg_ hnew_; (first | rw [← Ny117.out] at ho27 | (simp only [Int.reduceToNat] at ho27; rw [← Ny117.out] at ho27)); have n0_ := Aside0.mk (Kd.R_below aq39 hb); have n1_ := Aside0.mk (Kd.S_elder' aq40 (Kd.R_base ho27) hb); have n2_ := Aside0.mk (Kd.S_elder' aq50 (Kd.R_base ho27) hb); have n3_ := Aside0.mk (Kd.R_below aq55 hb); have n4_ := Aside0.mk (Kd.R_elder' aq46 (Kd.R_base ho27) hb); have n5_ := Aside0.mk (Kd.R_elder' aq47 (Kd.R_base ho27) hb); have n6_ := Aside0.mk (Kd.R_lower (Kd.R_new' (Kd.R_new' ho27 (Kd.R_lt aq46)) (Kd.R_lt aq47)) (below_size aq0)); have n7_ := Aside0.mk (Kd.C_below aq43 hb); have n8_ := Aside0.mk (Kd.C_below aq38 hb); have n9_ := Aside0.mk (below_step aq0 hb); clear HO105; clear HO108; clear HO111; clear HO114; clear HL115_0; clear HL116_0; clear HR115_0; clear HR116_0; clear HB; have HO105 := n0_; have HO108 := n1_; have HO111 := n2_; have HO114 := n3_; have HL115_0 := n4_; have HL116_0 := n5_; have HO119 := n6_; have HR115_0 := n7_; have HR116_0 := n8_; have HB := n9_; clear n0_ n1_ n2_ n3_ n4_ n5_ n6_ n7_ n8_ n9_; clear hb ho27; obtain ⟨Ao28, co28, eo28⟩ := Kd.R_slice HO119.out; subst eo28) | (go_at_call 23; (with_reducible refine (palingref14_Ints.calls k _ _ (rd_L5 t106 1) _ _ y117 true _ ?side1 ?side2 ?side3 ?side4 A9.out).mono ?_); (case side1 => repeat (first | exact aq38 | (with_reducible refine Kd.C_alloc ?_ _) | (with_reducible refine Kd.C_drewN ?_ _) | (with_reducible refine Kd.C_drew ?_))); (case side2 => exact HC116_0.out); (case side3 => repeat (first | exact (Kd.R_reads' HO119.out).2.2 | (with_reducible refine Kd.C_alloc ?_ _) | (with_reducible refine Kd.C_drewN ?_ _) | (with_reducible refine Kd.C_drew ?_))); (case side4 => exact (Kd.R_reads' HO119.out).2.1); rintro e w' ⟨rfl, ⟨nd, rfl⟩⟩; have p121 : 0 ≤ (0 : Int) := (by omega); have q121 : 0 < (t109.length : Int) := of_decide_eq_true aq1; obtain ⟨ad121, A121_0, c121_0, e121, hx121_0, hl121_0, hi121_0⟩ := at_L5 (Kd.S_reads' HO111.out).2.2 0 p121 q121; cases e121; obtain ⟨ce121, hce121, hMe121, hcc121⟩ := Kd.S_get HO111.out [] 0 p121 (by first | exact q121 | exact of_decide_eq_true aq1 | (have e_ := (Kd.S_reads' HO111.out).1; omega)); obtain ⟨ve121_0, rfl, ge121_0⟩ := hMe121; have hv121_0 := hcc121 0 _ rfl; rw [Nat.add_zero, show ((Kd.slice 3 (Kd.int .i64))).sz = 1 from rfl, Nat.mul_one] at hv121_0; replace hv121_0 := Option.some.inj (hv121_0.symm.trans hx121_0); rw [hv121_0] at ge121_0; have HL121_0 := Aside0.mk (show Kd.R (Kd.int .i64) 3 _ _ _ _ (rd_L5 t109 0) from ge121_0); clear hv121_0 ge121_0; clear hcc121 hce121; have qi121 : (0 < t109.length) = True := eq_true (by omega); (try rw [show ((0 : Int)).toNat = 0 from rfl] at hx121_0); (try rw [Addr.add_zero'] at hx121_0); have HR121_0 := Aside0.mk hi121_0; have HC121_0 := Aside0.mk hl121_0; clear hi121_0 hl121_0; replace p121 := eq_true p121; replace q121 := eq_true q121) | ((with_reducible refine gate_dst (N := 41) rfl ?_); (try (refine gate_guard (by rfl) ?_; dsimp only)); refine Kd.R_lit (Kd.int .i64) _ 3 ?hg (N := 41) ?hd (xs := ([0] : List Int)) (inner := [.int .i64 0]) (ok := fun _ => True) (okp := fun _ => True) ?hr ?hp (fun _ hk => hk) trivial (Below.refl _ _) (Nat.le_refl _) (by simp) ?_; (case hd => rfl); (case hg => rfl); (case hr => first | (go_simp; done) | (go_simp; rfl)); (case hp => exact (Reps.one (show Kd.M (Kd.int .i64) _ _ _ 0 [.int .i64 0] from rfl) (Reps.none _ _))); intro v123 w29 ho30 hb hg_ hnew_; clear hg_ hnew_; (first | rw [← Ny122.out] at ho30 | (simp only [Int.reduceToNat] at ho30; rw [← Ny122.out] at ho30)); have n0_ := Aside0.mk (Kd.R_below aq39 hb); have n1_ := Aside0.mk (Kd.S_elder' aq40 (Kd.R_base ho30) hb); have n2_ := Aside0.mk (Kd.S_elder' aq50 (Kd.R_base ho30) hb); have n3_ := Aside0.mk (Kd.R_below aq55 hb); have n4_ := Aside0.mk (Kd.R_elder' aq46 (Kd.R_base ho30) hb); have n5_ := Aside0.mk (Kd.R_elder' aq47 (Kd.R_base ho30) hb); have n6_ := Aside0.mk (Kd.R_elder' aq56 (Kd.R_base ho30) hb); have n7_ := Aside0.mk (Kd.R_elder' aq54 (Kd.R_base ho30) hb); have n8_ := Aside0.mk (Kd.R_lower (Kd.R_new' (Kd.R_new' (Kd.R_new' (Kd.R_new' ho30 (Kd.R_lt aq46)) (Kd.R_lt aq47)) (Kd.R_lt aq56)) (Kd.R_lt aq54)) (below_size aq0)); have n9_ := Aside0.mk (Kd.C_below aq43 hb); have n10_ := Aside0.mk (Kd.C_below aq38 hb); have n11_ := Aside0.mk (Kd.C_below aq44 hb); have n12_ := Aside0.mk (below_step aq0 hb); clear HO105; clear HO108; clear HO111; clear HO114; clear HL115_0; clear HL116_0; clear HO119; clear HL121_0; clear HR115_0; clear HR116_0; clear HR121_0; clear HB; have HO105 := n0_; have HO108 := n1_; have HO111 := n2_; have HO114 := n3_; have HL115_0 := n4_; have HL116_0 := n5_; have HO119 := n6_; have HL121_0 := n7_; have HO124 := n8_; have HR115_0 := n9_; have HR116_0 := n10_; have HR121_0 := n11_; have HB := n12_; clear n0_ n1_ n2_ n3_ n4_ n5_ n6_ n7_ n8_ n9_ n10_ n11_ n12_; clear hb ho30; obtain ⟨Ao31, co31, eo31⟩ := Kd.R_slice HO124.out; subst eo31) | (go_at_call 23; (with_reducible refine (palingref14_Ints.calls k _ _ (rd_L5 t109 0) _ _ y122 true _ ?side1 ?side2 ?side3 ?side4 A12.out).mono ?_); (case side1 => repeat (first | exact aq44 | (with_reducible refine Kd.C_alloc ?_ _) | (with_reducible refine Kd.C_drewN ?_ _) | (with_reducible refine Kd.C_drew ?_))); (case side2 => exact HC121_0.out); (case side3 => repeat (first | exact (Kd.R_reads' HO124.out).2.2 | (with_reducible refine Kd.C_alloc ?_ _) | (with_reducible refine Kd.C_drewN ?_ _) | (with_reducible refine Kd.C_drew ?_))); (case side4 => exact (Kd.R_reads' HO124.out).2.1); rintro e w' ⟨rfl, ⟨nd, rfl⟩⟩; obtain ⟨Ao32, co32, eo32⟩ := Kd.R_slice HO114.out; subst eo32; have p126 : 0 ≤ (0 : Int) := (by omega); have q126 : 0 < (t112.length : Int) := of_decide_eq_true aq1; obtain ⟨ad126, e126, hx126_0, hx126_1, hx126_2⟩ := at_T30 (Kd.R_reads' HO114.out).2.2 0 p126 q126; cases e126; have qi126 : (0 < t112.length) = True := eq_true (by omega); (try rw [show ((0 : Int)).toNat = 0 from rfl] at hx126_0); (try rw [show 0 * 3 = 0 from rfl] at hx126_0); (try rw [Addr.add_zero'] at hx126_0); (try rw [show ((0 : Int)).toNat = 0 from rfl] at hx126_1); (try rw [show 0 * 3 = 0 from rfl] at hx126_1); (try rw [Addr.add_zero'] at hx126_1); (try rw [show ((0 : Int)).toNat = 0 from rfl] at hx126_2); (try rw [show 0 * 3 = 0 from rfl] at hx126_2); (try rw [Addr.add_zero'] at hx126_2); replace p126 := eq_true p126; replace q126 := eq_true q126) | (go_at_call 16; (with_reducible refine (live_Most.calls k _ _ y103 t127 _ ?side1 ?side2 A17.out (GlobOK.step HGL.out aq0)).mono ?_); (case side1 => repeat (first | exact (Kd.R_reads' HO105.out).2.2 | (with_reducible refine Kd.C_alloc ?_ _) | (with_reducible refine Kd.C_drewN ?_ _) | (with_reducible refine Kd.C_drew ?_))); (case side2 => exact (Kd.R_reads' HO105.out).2.1); rintro e w33 ⟨rfl, hb⟩; have n0_ := Aside0.mk (Kd.R_below aq39 hb); have n1_ := Aside0.mk (Kd.S_below aq40 hb); have n2_ := Aside0.mk (Kd.S_below aq50 hb); have n3_ := Aside0.mk (Kd.R_below aq55 hb); have n4_ := Aside0.mk (Kd.R_below aq46 hb); have n5_ := Aside0.mk (Kd.R_below aq47 hb); have n6_ := Aside0.mk (Kd.R_below aq56 hb); have n7_ := Aside0.mk (Kd.R_below aq54 hb); have n8_ := Aside0.mk (Kd.R_below (by (with_reducible repeat (first | apply Kd.R_alloc | apply Kd.R_drewN | apply Kd.R_drew)); exact HO124.out) hb); have n9_ := Aside0.mk (Kd.C_below aq43 hb); have n10_ := Aside0.mk (Kd.C_below aq38 hb); have n11_ := Aside0.mk (Kd.C_below aq44 hb); have n12_ := Aside0.mk (below_step aq0 hb); clear HO105; clear HO108; clear HO111; clear HO114; clear HL115_0; clear HL116_0; clear HO119; clear HL121_0; clear HO124; clear HR115_0; clear HR116_0; clear HR121_0; clear HB; have HO105 := n0_; have HO108 := n1_; have HO111 := n2_; have HO114 := n3_; have HL115_0 := n4_; have HL116_0 := n5_; have HO119 := n6_; have HL121_0 := n7_; have HO124 := n8_; have HR115_0 := n9_; have HR116_0 := n10_; have HR121_0 := n11_; have HB := n12_; clear n0_ n1_ n2_ n3_ n4_ n5_ n6_ n7_ n8_ n9_ n10_ n11_ n12_; (try clear hb); (try clear hb2); (try clear hk); (try clear hi)))
 go_ret
 exact ⟨aq13, aq0⟩
/-! ### palinglaw15_small: function 8 -/
def palinglaw15_small.l0 : Nat → List (S39) → Int → Option (Bool)
  | 0, _, _ => none
  | k + 1, x0, x3 => if x3 < (x0.length : Int) then (if 0 ≤ x3 then (if ((rd_T39 x0 x3).f2) > 30 then (some false) else (if ((rd_T39 x0 x3).f3) > 30 then (some false) else (if ((rd_T39 x0 x3).f4) > 30 then (some false) else (palinglaw15_small.l0 k x0 (wrap64 (x3 + 1)))))) else (none)) else (some (decide ((x0.length : Int) ≤ 30)))
def palinglaw15_small.f (k : Nat) (l0 : List (S39)) : Option (Bool) := palinglaw15_small.l0 k l0 0
theorem palinglaw15_small.mono_l : ∀ k, (∀ y0 y1, LeO (palinglaw15_small.l0 k y0 y1) (palinglaw15_small.l0 (k + 1) y0 y1))
  | 0 => fun _ _ r h => by simp [palinglaw15_small.l0] at h
  | k + 1 => by
    have ih0 := palinglaw15_small.mono_l k
    intros <;> unfold palinglaw15_small.l0 <;> repeat' (first | (with_reducible first | exact ih0 _ _ | exact LeO.refl _ | exact LeO.none _ | refine LeO.ite ?_ ?_ | refine LeO.bind ?_ (fun _ => ?_)) | exact ih0 _ _ | exact LeO.none _ | refine LeO.ite ?_ ?_ | refine LeO.bind ?_ (fun _ => ?_))
theorem palinglaw15_small.mono : ∀ a0 k, LeO (palinglaw15_small.f k a0) (palinglaw15_small.f (k + 1) a0) := by
 intro a0 k
 have ih0 := palinglaw15_small.mono_l k
 unfold palinglaw15_small.f
 repeat' (first | (with_reducible first | exact ih0 _ _ | exact LeO.refl _ | exact LeO.none _ | refine LeO.ite ?_ ?_ | refine LeO.bind ?_ (fun _ => ?_)) | exact ih0 _ _ | exact LeO.none _ | refine LeO.ite ?_ ?_ | refine LeO.bind ?_ (fun _ => ?_))
set_option maxHeartbeats 8000000 in
set_option maxRecDepth 100000 in
theorem palinglaw15_small.calls (k : Nat) (A0 : Option Addr) (c0 : Nat) (l0 : List (S39)) (r : Bool) (w : World) (hr0 : Kd.C k39 w A0 l0.length l0) (hc0 : l0.length ≤ c0) (h : palinglaw15_small.f k l0 = some r) :
    Calls Tryd.prog 8 #[.slice A0 l0.length c0] w fun e w' => e = .returned (.bool r) ∧ Drawn0 w w' := by
 have HR0 := Aside0.mk hr0
 have HC0 := Aside0.mk hc0
 clear hr0 hc0
 have H : (palinglaw15_small.l0 k l0 0) = some r := h
 clear h
 have H' := Aside0.mk H
 clear H
 go_enter Tryd.func8, Tryd.ntmps8
 go_wp2
 go_loopg [3] k (fun kq v3 w' => ∃ (x3_1 : Int), v3 = .int .i64 x3_1 ∧ Aside0 (palinglaw15_small.l0 kq l0 x3_1 = some r) ∧ Aside0 (kq ≤ k) ∧ Drawn0 w w')
 case atStart => exact ⟨(0), aq9, H', ⟨Nat.le_refl _⟩, aq21⟩
 case round =>
  clear H'
  obtain ⟨x3_1, rfl, HA, HK1, ⟨m1, rfl⟩⟩ := hrel
  cases gk with
  | zero => exact absurd HA.out (by simp [palinglaw15_small.l0])
  | succ k1 =>
   have H := HA.out
   clear HA
   simp only [palinglaw15_small.l0] at H
   by_cases c2 : x3_1 < (l0.length : Int)
   rotate_left
   ·rw [if_neg c2] at H
    have c2b0 : decide (x3_1 < (l0.length : Int)) = false := decide_eq_false c2
    clear c2
    obtain rfl := Option.some.inj H
    go_wp2
    go_ret
    exact ⟨aq9, aq21⟩
   rw [if_pos c2] at H
   have c2b0 : decide (x3_1 < (l0.length : Int)) = true := decide_eq_true c2
   clear c2
   by_cases c3 : 0 ≤ x3_1
   rotate_left
   ·rw [if_neg c3] at H
    exact absurd H (by simp)
   rw [if_pos c3] at H
   have c3b0 : decide (0 ≤ x3_1) = true := decide_eq_true c3
   clear c3
   by_cases c4 : ((rd_T39 l0 x3_1).f2) > 30
   ·rw [if_pos c4] at H
    have c4b0 : decide (30 < ((rd_T39 l0 x3_1).f2)) = true := decide_eq_true c4
    clear c4
    obtain rfl := Option.some.inj H
    have p128 : 0 ≤ (x3_1 : Int) := of_decide_eq_true aq1
    have q128 : x3_1 < (l0.length : Int) := of_decide_eq_true aq1
    obtain ⟨ad128, e128, hx128_0, hx128_1, hx128_2, hx128_3, hx128_4, hx128_5, hx128_6⟩ := at_T39 HR0.out x3_1 p128 q128
    cases e128
    replace p128 := eq_true p128
    replace q128 := eq_true q128
    go_wp2
    go_ret
    exact ⟨aq9, aq21⟩
   rw [if_neg c4] at H
   have c4b0 : decide (30 < ((rd_T39 l0 x3_1).f2)) = false := decide_eq_false c4
   clear c4
   by_cases c5 : ((rd_T39 l0 x3_1).f3) > 30
   ·rw [if_pos c5] at H
    have c5b0 : decide (30 < ((rd_T39 l0 x3_1).f3)) = true := decide_eq_true c5
    clear c5
    obtain rfl := Option.some.inj H
    have p128 : 0 ≤ (x3_1 : Int) := of_decide_eq_true aq1
    have q128 : x3_1 < (l0.length : Int) := of_decide_eq_true aq1
    obtain ⟨ad128, e128, hx128_0, hx128_1, hx128_2, hx128_3, hx128_4, hx128_5, hx128_6⟩ := at_T39 HR0.out x3_1 p128 q128
    cases e128
    replace p128 := eq_true p128
    replace q128 := eq_true q128
    have p129 : 0 ≤ (x3_1 : Int) := of_decide_eq_true aq1
    have q129 : x3_1 < (l0.length : Int) := of_decide_eq_true aq1
    obtain ⟨ad129, e129, hx129_0, hx129_1, hx129_2, hx129_3, hx129_4, hx129_5, hx129_6⟩ := at_T39 HR0.out x3_1 p129 q129
    obtain rfl : ad128 = ad129 := (by injection e129)
    replace p129 := eq_true p129
    replace q129 := eq_true q129
    go_wp2
    go_ret
    exact ⟨aq9, aq21⟩
   rw [if_neg c5] at H
   have c5b0 : decide (30 < ((rd_T39 l0 x3_1).f3)) = false := decide_eq_false c5
   clear c5
   by_cases c6 : ((rd_T39 l0 x3_1).f4) > 30
   ·rw [if_pos c6] at H
    have c6b0 : decide (30 < ((rd_T39 l0 x3_1).f4)) = true := decide_eq_true c6
    clear c6
    obtain rfl := Option.some.inj H
    have p128 : 0 ≤ (x3_1 : Int) := of_decide_eq_true aq1
    have q128 : x3_1 < (l0.length : Int) := of_decide_eq_true aq1
    obtain ⟨ad128, e128, hx128_0, hx128_1, hx128_2, hx128_3, hx128_4, hx128_5, hx128_6⟩ := at_T39 HR0.out x3_1 p128 q128
    cases e128
    replace p128 := eq_true p128
    replace q128 := eq_true q128
    have p129 : 0 ≤ (x3_1 : Int) := of_decide_eq_true aq1
    have q129 : x3_1 < (l0.length : Int) := of_decide_eq_true aq1
    obtain ⟨ad129, e129, hx129_0, hx129_1, hx129_2, hx129_3, hx129_4, hx129_5, hx129_6⟩ := at_T39 HR0.out x3_1 p129 q129
    obtain rfl : ad128 = ad129 := (by injection e129)
    replace p129 := eq_true p129
    replace q129 := eq_true q129
    have p130 : 0 ≤ (x3_1 : Int) := of_decide_eq_true aq1
    have q130 : x3_1 < (l0.length : Int) := of_decide_eq_true aq1
    obtain ⟨ad130, e130, hx130_0, hx130_1, hx130_2, hx130_3, hx130_4, hx130_5, hx130_6⟩ := at_T39 HR0.out x3_1 p130 q130
    obtain rfl : ad128 = ad130 := (by injection e130)
    replace p130 := eq_true p130
    replace q130 := eq_true q130
    go_wp2
    go_ret
    exact ⟨aq9, aq21⟩
   rw [if_neg c6] at H
   have c6b0 : decide (30 < ((rd_T39 l0 x3_1).f4)) = false := decide_eq_false c6
   clear c6
   have H' := Aside0.mk H
   clear H
   have p128 : 0 ≤ (x3_1 : Int) := of_decide_eq_true aq1
   have q128 : x3_1 < (l0.length : Int) := of_decide_eq_true aq1
   obtain ⟨ad128, e128, hx128_0, hx128_1, hx128_2, hx128_3, hx128_4, hx128_5, hx128_6⟩ := at_T39 HR0.out x3_1 p128 q128
   cases e128
   replace p128 := eq_true p128
   replace q128 := eq_true q128
   have p129 : 0 ≤ (x3_1 : Int) := of_decide_eq_true aq1
   have q129 : x3_1 < (l0.length : Int) := of_decide_eq_true aq1
   obtain ⟨ad129, e129, hx129_0, hx129_1, hx129_2, hx129_3, hx129_4, hx129_5, hx129_6⟩ := at_T39 HR0.out x3_1 p129 q129
   obtain rfl : ad128 = ad129 := (by injection e129)
   replace p129 := eq_true p129
   replace q129 := eq_true q129
   have p130 : 0 ≤ (x3_1 : Int) := of_decide_eq_true aq1
   have q130 : x3_1 < (l0.length : Int) := of_decide_eq_true aq1
   obtain ⟨ad130, e130, hx130_0, hx130_1, hx130_2, hx130_3, hx130_4, hx130_5, hx130_6⟩ := at_T39 HR0.out x3_1 p130 q130
   obtain rfl : ad128 = ad130 := (by injection e130)
   replace p130 := eq_true p130
   replace q130 := eq_true q130
   go_wp2
   go_roundg k1
   case measure => have := HK1.out; omega
   case rel => exact ⟨(wrap64 (x3_1 + 1)), aq9, H', ⟨aq60⟩, aq21⟩
/-! ### palingref11_fields: function 31 -/
def palingref11_fields.f (a0 : Int) : Option (ByteArray) := (some (([(⟨#[68, 78]⟩ : ByteArray), (⟨#[68, 65]⟩ : ByteArray), (⟨#[68, 79, 65, 66]⟩ : ByteArray), (⟨#[68, 65, 66]⟩ : ByteArray), (⟨#[68, 65, 78]⟩ : ByteArray), (⟨#[65, 66, 78]⟩ : ByteArray), (⟨#[84]⟩ : ByteArray), (⟨#[65, 84]⟩ : ByteArray), (⟨#[46]⟩ : ByteArray), (⟨#[78]⟩ : ByteArray), (⟨#[78]⟩ : ByteArray), (⟨#[65]⟩ : ByteArray), (⟨#[78]⟩ : ByteArray), (⟨#[46]⟩ : ByteArray)] : List ByteArray) : List ByteArray)).bind fun y131 => (if a0 < 0 then (some (⟨#[]⟩ : ByteArray)) else (if a0 ≥ (y131.length : Int) then (some (⟨#[]⟩ : ByteArray)) else (if 0 ≤ a0 then (if a0 < (y131.length : Int) then (some (rdOf ByteArray.empty y131 a0)) else (none)) else (none))))
set_option maxHeartbeats 8000000 in
set_option maxRecDepth 100000 in
theorem palingref11_fields.calls (a0 : Int) (r : ByteArray) (w : World) (h : palingref11_fields.f a0 = some r) :
    Calls Tryd.prog 31 #[.int .i64 a0] w fun e w' => e = .returned (.string r) ∧ Below w.heap.size w w' := by
 have HB := Aside0.mk (Below.refl w.heap.size w)
 have H : ((some (([(⟨#[68, 78]⟩ : ByteArray), (⟨#[68, 65]⟩ : ByteArray), (⟨#[68, 79, 65, 66]⟩ : ByteArray), (⟨#[68, 65, 66]⟩ : ByteArray), (⟨#[68, 65, 78]⟩ : ByteArray), (⟨#[65, 66, 78]⟩ : ByteArray), (⟨#[84]⟩ : ByteArray), (⟨#[65, 84]⟩ : ByteArray), (⟨#[46]⟩ : ByteArray), (⟨#[78]⟩ : ByteArray), (⟨#[78]⟩ : ByteArray), (⟨#[65]⟩ : ByteArray), (⟨#[78]⟩ : ByteArray), (⟨#[46]⟩ : ByteArray)] : List ByteArray) : List ByteArray)).bind fun y131 => (if a0 < 0 then (some (⟨#[]⟩ : ByteArray)) else (if a0 ≥ (y131.length : Int) then (some (⟨#[]⟩ : ByteArray)) else (if 0 ≤ a0 then (if a0 < (y131.length : Int) then (some (rdOf ByteArray.empty y131 a0)) else (none)) else (none))))) = some r := h
 clear h
 obtain ⟨y131, hy_⟩ : ∃ y_ : List ByteArray, y_ = (([(⟨#[68, 78]⟩ : ByteArray), (⟨#[68, 65]⟩ : ByteArray), (⟨#[68, 79, 65, 66]⟩ : ByteArray), (⟨#[68, 65, 66]⟩ : ByteArray), (⟨#[68, 65, 78]⟩ : ByteArray), (⟨#[65, 66, 78]⟩ : ByteArray), (⟨#[84]⟩ : ByteArray), (⟨#[65, 84]⟩ : ByteArray), (⟨#[46]⟩ : ByteArray), (⟨#[78]⟩ : ByteArray), (⟨#[78]⟩ : ByteArray), (⟨#[65]⟩ : ByteArray), (⟨#[78]⟩ : ByteArray), (⟨#[46]⟩ : ByteArray)] : List ByteArray)) := ⟨_, rfl⟩
 replace H : (if a0 < 0 then (some (⟨#[]⟩ : ByteArray)) else (if a0 ≥ (y131.length : Int) then (some (⟨#[]⟩ : ByteArray)) else (if 0 ≤ a0 then (if a0 < (y131.length : Int) then (some (rdOf ByteArray.empty y131 a0)) else (none)) else (none)))) = some r := aq2
 have Ny131 := Aside0.mk hy_
 clear hy_
 by_cases c2 : a0 < 0
 ·rw [if_pos c2] at H
  have c2b0 : decide (a0 < 0) = true := decide_eq_true c2
  clear c2
  obtain rfl := Option.some.inj H
  go_enter Tryd.func31, Tryd.ntmps31
  go_wp2_with (first | ((with_reducible refine gate_dst (N := 4) rfl ?_); (try (refine gate_guard (by rfl) ?_; dsimp only)); refine Kd.R_lit Kd.string _ 9 ?hg (N := 4) ?hd (xs := ([(⟨#[68, 78]⟩ : ByteArray), (⟨#[68, 65]⟩ : ByteArray), (⟨#[68, 79, 65, 66]⟩ : ByteArray), (⟨#[68, 65, 66]⟩ : ByteArray), (⟨#[68, 65, 78]⟩ : ByteArray), (⟨#[65, 66, 78]⟩ : ByteArray), (⟨#[84]⟩ : ByteArray), (⟨#[65, 84]⟩ : ByteArray), (⟨#[46]⟩ : ByteArray), (⟨#[78]⟩ : ByteArray), (⟨#[78]⟩ : ByteArray), (⟨#[65]⟩ : ByteArray), (⟨#[78]⟩ : ByteArray), (⟨#[46]⟩ : ByteArray)] : List ByteArray)) (inner := [.string (⟨#[68, 78]⟩ : ByteArray), .string (⟨#[68, 65]⟩ : ByteArray), .string (⟨#[68, 79, 65, 66]⟩ : ByteArray), .string (⟨#[68, 65, 66]⟩ : ByteArray), .string (⟨#[68, 65, 78]⟩ : ByteArray), .string (⟨#[65, 66, 78]⟩ : ByteArray), .string (⟨#[84]⟩ : ByteArray), .string (⟨#[65, 84]⟩ : ByteArray), .string (⟨#[46]⟩ : ByteArray), .string (⟨#[78]⟩ : ByteArray), .string (⟨#[78]⟩ : ByteArray), .string (⟨#[65]⟩ : ByteArray), .string (⟨#[78]⟩ : ByteArray), .string (⟨#[46]⟩ : ByteArray)]) (ok := fun _ => True) (okp := fun _ => True) ?hr ?hp (fun _ hk => hk) trivial (Below.refl _ _) (Nat.le_refl _) (by simp) ?_; (case hd => rfl); (case hg => rfl); (case hr => first | (go_simp; done) | (go_simp; rfl)); (case hp => exact (Reps.one (show Kd.M Kd.string _ _ _ (⟨#[68, 78]⟩ : ByteArray) [.string (⟨#[68, 78]⟩ : ByteArray)] from rfl) (Reps.one (show Kd.M Kd.string _ _ _ (⟨#[68, 65]⟩ : ByteArray) [.string (⟨#[68, 65]⟩ : ByteArray)] from rfl) (Reps.one (show Kd.M Kd.string _ _ _ (⟨#[68, 79, 65, 66]⟩ : ByteArray) [.string (⟨#[68, 79, 65, 66]⟩ : ByteArray)] from rfl) (Reps.one (show Kd.M Kd.string _ _ _ (⟨#[68, 65, 66]⟩ : ByteArray) [.string (⟨#[68, 65, 66]⟩ : ByteArray)] from rfl) (Reps.one (show Kd.M Kd.string _ _ _ (⟨#[68, 65, 78]⟩ : ByteArray) [.string (⟨#[68, 65, 78]⟩ : ByteArray)] from rfl) (Reps.one (show Kd.M Kd.string _ _ _ (⟨#[65, 66, 78]⟩ : ByteArray) [.string (⟨#[65, 66, 78]⟩ : ByteArray)] from rfl) (Reps.one (show Kd.M Kd.string _ _ _ (⟨#[84]⟩ : ByteArray) [.string (⟨#[84]⟩ : ByteArray)] from rfl) (Reps.one (show Kd.M Kd.string _ _ _ (⟨#[65, 84]⟩ : ByteArray) [.string (⟨#[65, 84]⟩ : ByteArray)] from rfl) (Reps.one (show Kd.M Kd.string _ _ _ (⟨#[46]⟩ : ByteArray) [.string (⟨#[46]⟩ : ByteArray)] from rfl) (Reps.one (show Kd.M Kd.string _ _ _ (⟨#[78]⟩ : ByteArray) [.string (⟨#[78]⟩ : ByteArray)] from rfl) (Reps.one (show Kd.M Kd.string _ _ _ (⟨#[78]⟩ : ByteArray) [.string (⟨#[78]⟩ : ByteArray)] from rfl) (Reps.one (show Kd.M Kd.string _ _ _ (⟨#[65]⟩ : ByteArray) [.string (⟨#[65]⟩ : ByteArray)] from rfl) (Reps.one (show Kd.M Kd.string _ _ _ (⟨#[78]⟩ : ByteArray) [.string (⟨#[78]⟩ : ByteArray)] from rfl) (Reps.one (show Kd.M Kd.string _ _ _ (⟨#[46]⟩ : ByteArray) [.string (⟨#[46]⟩ : ByteArray)] from rfl) (Reps.none _ _)))))))))))))))); intro v132 w3 ho4 hb hg_ hnew_; clear hg_ hnew_; (first | rw [← Ny131.out] at ho4 | (simp only [Int.reduceToNat] at ho4; rw [← Ny131.out] at ho4)); have HO133 := Aside0.mk (Kd.R_lower ho4 (below_size aq0)); replace HB := Aside0.mk (below_step aq0 hb); clear hb ho4))
  go_ret
  exact ⟨aq13, aq0⟩
 rw [if_neg c2] at H
 have c2b0 : decide (a0 < 0) = false := decide_eq_false c2
 clear c2
 by_cases c5 : a0 ≥ (y131.length : Int)
 ·rw [if_pos c5] at H
  have c5b0 : decide ((y131.length : Int) ≤ a0) = true := decide_eq_true c5
  clear c5
  obtain rfl := Option.some.inj H
  go_enter Tryd.func31, Tryd.ntmps31
  go_wp2_with (first | ((with_reducible refine gate_dst (N := 4) rfl ?_); (try (refine gate_guard (by rfl) ?_; dsimp only)); refine Kd.R_lit Kd.string _ 9 ?hg (N := 4) ?hd (xs := ([(⟨#[68, 78]⟩ : ByteArray), (⟨#[68, 65]⟩ : ByteArray), (⟨#[68, 79, 65, 66]⟩ : ByteArray), (⟨#[68, 65, 66]⟩ : ByteArray), (⟨#[68, 65, 78]⟩ : ByteArray), (⟨#[65, 66, 78]⟩ : ByteArray), (⟨#[84]⟩ : ByteArray), (⟨#[65, 84]⟩ : ByteArray), (⟨#[46]⟩ : ByteArray), (⟨#[78]⟩ : ByteArray), (⟨#[78]⟩ : ByteArray), (⟨#[65]⟩ : ByteArray), (⟨#[78]⟩ : ByteArray), (⟨#[46]⟩ : ByteArray)] : List ByteArray)) (inner := [.string (⟨#[68, 78]⟩ : ByteArray), .string (⟨#[68, 65]⟩ : ByteArray), .string (⟨#[68, 79, 65, 66]⟩ : ByteArray), .string (⟨#[68, 65, 66]⟩ : ByteArray), .string (⟨#[68, 65, 78]⟩ : ByteArray), .string (⟨#[65, 66, 78]⟩ : ByteArray), .string (⟨#[84]⟩ : ByteArray), .string (⟨#[65, 84]⟩ : ByteArray), .string (⟨#[46]⟩ : ByteArray), .string (⟨#[78]⟩ : ByteArray), .string (⟨#[78]⟩ : ByteArray), .string (⟨#[65]⟩ : ByteArray), .string (⟨#[78]⟩ : ByteArray), .string (⟨#[46]⟩ : ByteArray)]) (ok := fun _ => True) (okp := fun _ => True) ?hr ?hp (fun _ hk => hk) trivial (Below.refl _ _) (Nat.le_refl _) (by simp) ?_; (case hd => rfl); (case hg => rfl); (case hr => first | (go_simp; done) | (go_simp; rfl)); (case hp => exact (Reps.one (show Kd.M Kd.string _ _ _ (⟨#[68, 78]⟩ : ByteArray) [.string (⟨#[68, 78]⟩ : ByteArray)] from rfl) (Reps.one (show Kd.M Kd.string _ _ _ (⟨#[68, 65]⟩ : ByteArray) [.string (⟨#[68, 65]⟩ : ByteArray)] from rfl) (Reps.one (show Kd.M Kd.string _ _ _ (⟨#[68, 79, 65, 66]⟩ : ByteArray) [.string (⟨#[68, 79, 65, 66]⟩ : ByteArray)] from rfl) (Reps.one (show Kd.M Kd.string _ _ _ (⟨#[68, 65, 66]⟩ : ByteArray) [.string (⟨#[68, 65, 66]⟩ : ByteArray)] from rfl) (Reps.one (show Kd.M Kd.string _ _ _ (⟨#[68, 65, 78]⟩ : ByteArray) [.string (⟨#[68, 65, 78]⟩ : ByteArray)] from rfl) (Reps.one (show Kd.M Kd.string _ _ _ (⟨#[65, 66, 78]⟩ : ByteArray) [.string (⟨#[65, 66, 78]⟩ : ByteArray)] from rfl) (Reps.one (show Kd.M Kd.string _ _ _ (⟨#[84]⟩ : ByteArray) [.string (⟨#[84]⟩ : ByteArray)] from rfl) (Reps.one (show Kd.M Kd.string _ _ _ (⟨#[65, 84]⟩ : ByteArray) [.string (⟨#[65, 84]⟩ : ByteArray)] from rfl) (Reps.one (show Kd.M Kd.string _ _ _ (⟨#[46]⟩ : ByteArray) [.string (⟨#[46]⟩ : ByteArray)] from rfl) (Reps.one (show Kd.M Kd.string _ _ _ (⟨#[78]⟩ : ByteArray) [.string (⟨#[78]⟩ : ByteArray)] from rfl) (Reps.one (show Kd.M Kd.string _ _ _ (⟨#[78]⟩ : ByteArray) [.string (⟨#[78]⟩ : ByteArray)] from rfl) (Reps.one (show Kd.M Kd.string _ _ _ (⟨#[65]⟩ : ByteArray) [.string (⟨#[65]⟩ : ByteArray)] from rfl) (Reps.one (show Kd.M Kd.string _ _ _ (⟨#[78]⟩ : ByteArray) [.string (⟨#[78]⟩ : ByteArray)] from rfl) (Reps.one (show Kd.M Kd.string _ _ _ (⟨#[46]⟩ : ByteArray) [.string (⟨#[46]⟩ : ByteArray)] from rfl) (Reps.none _ _)))))))))))))))); intro v132 w6 ho7 hb hg_ hnew_; clear hg_ hnew_; (first | rw [← Ny131.out] at ho7 | (simp only [Int.reduceToNat] at ho7; rw [← Ny131.out] at ho7)); have HO133 := Aside0.mk (Kd.R_lower ho7 (below_size aq0)); replace HB := Aside0.mk (below_step aq0 hb); clear hb ho7; obtain ⟨Ao8, co8, eo8⟩ := Kd.R_slice HO133.out; subst eo8))
  go_ret
  exact ⟨aq13, aq0⟩
 rw [if_neg c5] at H
 have c5b0 : decide ((y131.length : Int) ≤ a0) = false := decide_eq_false c5
 clear c5
 by_cases c9 : 0 ≤ a0
 rotate_left
 ·rw [if_neg c9] at H
  exact absurd H (by simp)
 rw [if_pos c9] at H
 have c9b0 : decide (0 ≤ a0) = true := decide_eq_true c9
 clear c9
 by_cases c10 : a0 < (y131.length : Int)
 rotate_left
 ·rw [if_neg c10] at H
  exact absurd H (by simp)
 rw [if_pos c10] at H
 have c10b0 : decide (a0 < (y131.length : Int)) = true := decide_eq_true c10
 clear c10
 obtain rfl := Option.some.inj H
 go_enter Tryd.func31, Tryd.ntmps31
 go_wp2_with (first | ((with_reducible refine gate_dst (N := 4) rfl ?_); (try (refine gate_guard (by rfl) ?_; dsimp only)); refine Kd.R_lit Kd.string _ 9 ?hg (N := 4) ?hd (xs := ([(⟨#[68, 78]⟩ : ByteArray), (⟨#[68, 65]⟩ : ByteArray), (⟨#[68, 79, 65, 66]⟩ : ByteArray), (⟨#[68, 65, 66]⟩ : ByteArray), (⟨#[68, 65, 78]⟩ : ByteArray), (⟨#[65, 66, 78]⟩ : ByteArray), (⟨#[84]⟩ : ByteArray), (⟨#[65, 84]⟩ : ByteArray), (⟨#[46]⟩ : ByteArray), (⟨#[78]⟩ : ByteArray), (⟨#[78]⟩ : ByteArray), (⟨#[65]⟩ : ByteArray), (⟨#[78]⟩ : ByteArray), (⟨#[46]⟩ : ByteArray)] : List ByteArray)) (inner := [.string (⟨#[68, 78]⟩ : ByteArray), .string (⟨#[68, 65]⟩ : ByteArray), .string (⟨#[68, 79, 65, 66]⟩ : ByteArray), .string (⟨#[68, 65, 66]⟩ : ByteArray), .string (⟨#[68, 65, 78]⟩ : ByteArray), .string (⟨#[65, 66, 78]⟩ : ByteArray), .string (⟨#[84]⟩ : ByteArray), .string (⟨#[65, 84]⟩ : ByteArray), .string (⟨#[46]⟩ : ByteArray), .string (⟨#[78]⟩ : ByteArray), .string (⟨#[78]⟩ : ByteArray), .string (⟨#[65]⟩ : ByteArray), .string (⟨#[78]⟩ : ByteArray), .string (⟨#[46]⟩ : ByteArray)]) (ok := fun _ => True) (okp := fun _ => True) ?hr ?hp (fun _ hk => hk) trivial (Below.refl _ _) (Nat.le_refl _) (by simp) ?_; (case hd => rfl); (case hg => rfl); (case hr => first | (go_simp; done) | (go_simp; rfl)); (case hp => exact (Reps.one (show Kd.M Kd.string _ _ _ (⟨#[68, 78]⟩ : ByteArray) [.string (⟨#[68, 78]⟩ : ByteArray)] from rfl) (Reps.one (show Kd.M Kd.string _ _ _ (⟨#[68, 65]⟩ : ByteArray) [.string (⟨#[68, 65]⟩ : ByteArray)] from rfl) (Reps.one (show Kd.M Kd.string _ _ _ (⟨#[68, 79, 65, 66]⟩ : ByteArray) [.string (⟨#[68, 79, 65, 66]⟩ : ByteArray)] from rfl) (Reps.one (show Kd.M Kd.string _ _ _ (⟨#[68, 65, 66]⟩ : ByteArray) [.string (⟨#[68, 65, 66]⟩ : ByteArray)] from rfl) (Reps.one (show Kd.M Kd.string _ _ _ (⟨#[68, 65, 78]⟩ : ByteArray) [.string (⟨#[68, 65, 78]⟩ : ByteArray)] from rfl) (Reps.one (show Kd.M Kd.string _ _ _ (⟨#[65, 66, 78]⟩ : ByteArray) [.string (⟨#[65, 66, 78]⟩ : ByteArray)] from rfl) (Reps.one (show Kd.M Kd.string _ _ _ (⟨#[84]⟩ : ByteArray) [.string (⟨#[84]⟩ : ByteArray)] from rfl) (Reps.one (show Kd.M Kd.string _ _ _ (⟨#[65, 84]⟩ : ByteArray) [.string (⟨#[65, 84]⟩ : ByteArray)] from rfl) (Reps.one (show Kd.M Kd.string _ _ _ (⟨#[46]⟩ : ByteArray) [.string (⟨#[46]⟩ : ByteArray)] from rfl) (Reps.one (show Kd.M Kd.string _ _ _ (⟨#[78]⟩ : ByteArray) [.string (⟨#[78]⟩ : ByteArray)] from rfl) (Reps.one (show Kd.M Kd.string _ _ _ (⟨#[78]⟩ : ByteArray) [.string (⟨#[78]⟩ : ByteArray)] from rfl) (Reps.one (show Kd.M Kd.string _ _ _ (⟨#[65]⟩ : ByteArray) [.string (⟨#[65]⟩ : ByteArray)] from rfl) (Reps.one (show Kd.M Kd.string _ _ _ (⟨#[78]⟩ : ByteArray) [.string (⟨#[78]⟩ : ByteArray)] from rfl) (Reps.one (show Kd.M Kd.string _ _ _ (⟨#[46]⟩ : ByteArray) [.string (⟨#[46]⟩ : ByteArray)] from rfl) (Reps.none _ _)))))))))))))))); intro v132 w11 ho12 hb hg_ hnew_; clear hg_ hnew_; (first | rw [← Ny131.out] at ho12 | (simp only [Int.reduceToNat] at ho12; rw [← Ny131.out] at ho12)); have HO133 := Aside0.mk (Kd.R_lower ho12 (below_size aq0)); replace HB := Aside0.mk (below_step aq0 hb); clear hb ho12; obtain ⟨Ao13, co13, eo13⟩ := Kd.R_slice HO133.out; subst eo13; have p134 : 0 ≤ (a0 : Int) := of_decide_eq_true aq1; have q134 : a0 < (y131.length : Int) := of_decide_eq_true aq1; obtain ⟨ad134, e134, hx134_0⟩ := Kd.at_string (Kd.R_reads' HO133.out).2.2 a0 p134 q134; cases e134; replace p134 := eq_true p134; replace q134 := eq_true q134))
 go_ret
 exact ⟨aq13, aq0⟩
end Go.Proofs.YtianfjhhhhmjlaaDoor.PLiveTells
