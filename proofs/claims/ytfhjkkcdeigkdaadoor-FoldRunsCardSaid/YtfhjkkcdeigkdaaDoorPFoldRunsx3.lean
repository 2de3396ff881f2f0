-- Written by print2.py over the kit's printer. Not trusted: Lean checks it.
import Derived.Test.YtfhjkkcdeigkdaaDoorPFoldRunshqq
import Derived.Test.YtfhjkkcdeigkdaaDoorPFoldRunsx0
import Derived.Test.YtfhjkkcdeigkdaaDoorPFoldRunshone11
namespace Go.Proofs.YtfhjkkcdeigkdaaDoor.PFoldRuns
open Go.RowKit Go.Proofs.YtfhjkkcdeigkdaaDoorW.PrintWords Go.Proofs.YtfhjkkcdeigkdaaDoorW.PrintLast Go.Proofs.YtfhjkkcdeigkdaaDoorW.PrintMore
attribute [local go_sem] max2_int min2_int max_two min_two max_three min_three max_four min_four   -- for this text's walks alone
set_option linter.unusedVariables false
set_option linter.unusedSimpArgs false

/-! ### palingref11_Check: function 8 -/
mutual
def palingref11_Check.j0 : Nat → List (S53) → Int → Int → Bool → Option (Bool)
  | 0, _, _, _, _ => none
  | k + 1, x0, x1, x2, x17 => if x17 = true then (some false) else (palingref11_Check.l0 k x0 x1 x2 0)
def palingref11_Check.l0 : Nat → List (S53) → Int → Int → Int → Option (Bool)
  | 0, _, _, _, _ => none
  | k + 1, x0, x1, x2, x7 => if x7 < (x0.length : Int) then (if 0 ≤ x7 then ((palingref11_one.f k ((rd_T53 x0 x7).f0) ((rd_T53 x0 x7).f1) ((rd_T53 x0 x7).f2) ((rd_T53 x0 x7).f3) ((rd_T53 x0 x7).f4) ((rd_T53 x0 x7).f5) ((rd_T53 x0 x7).f6) (x0.length : Int) x1 x2).bind fun t107 => (if t107 = true then (palingref11_Check.l0 k x0 x1 x2 (wrap64 (x7 + 1))) else (some false))) else (none)) else (if 0 ≤ (wrap64 ((x0.length : Int) - 1)) then (if (wrap64 ((x0.length : Int) - 1)) < (x0.length : Int) then (if ((rd_T53 x0 (wrap64 ((x0.length : Int) - 1))).f0) = 6 then (some true) else (if ((rd_T53 x0 (wrap64 ((x0.length : Int) - 1))).f0) = 12 then (some true) else (some (((rd_T53 x0 (wrap64 ((x0.length : Int) - 1))).f0) == 13)))) else (none)) else (none))
end
def palingref11_Check.f (k : Nat) (l0 : List (S53)) (a1 : Int) (a2 : Int) : Option (Bool) := if (l0.length : Int) < 1 then (palingref11_Check.j0 k l0 a1 a2 true) else (palingref11_Check.j0 k l0 a1 a2 (decide ((l0.length : Int) > 4096)))
theorem palingref11_Check.mono_l : ∀ k, (∀ y0 y1 y2 y3, LeO (palingref11_Check.j0 k y0 y1 y2 y3) (palingref11_Check.j0 (k + 1) y0 y1 y2 y3)) ∧ (∀ y0 y1 y2 y3, LeO (palingref11_Check.l0 k y0 y1 y2 y3) (palingref11_Check.l0 (k + 1) y0 y1 y2 y3))
  | 0 => ⟨fun _ _ _ _ r h => by simp [palingref11_Check.j0] at h, fun _ _ _ _ r h => by simp [palingref11_Check.l0] at h⟩
  | k + 1 => by
    obtain ⟨ih0, ih1⟩ := palingref11_Check.mono_l k
    refine ⟨?_, ?_⟩ <;> intros <;> (first | unfold palingref11_Check.j0 | unfold palingref11_Check.l0) <;> repeat' (first | (with_reducible first | exact ih0 _ _ _ _ | exact ih1 _ _ _ _ | exact palingref11_one.mono _ _ _ _ _ _ _ _ _ _ _ | exact LeO.refl _ | exact LeO.none _ | refine LeO.ite ?_ ?_ | refine LeO.bind ?_ (fun _ => ?_)) | exact ih0 _ _ _ _ | exact ih1 _ _ _ _ | exact palingref11_one.mono _ _ _ _ _ _ _ _ _ _ _ | exact LeO.none _ | refine LeO.ite ?_ ?_ | refine LeO.bind ?_ (fun _ => ?_))
theorem palingref11_Check.mono : ∀ a0 a1 a2 k, LeO (palingref11_Check.f k a0 a1 a2) (palingref11_Check.f (k + 1) a0 a1 a2) := by
 intro a0 a1 a2 k
 obtain ⟨ih0, ih1⟩ := palingref11_Check.mono_l k
 unfold palingref11_Check.f
 repeat' (first | (with_reducible first | exact ih0 _ _ _ _ | exact ih1 _ _ _ _ | exact palingref11_one.mono _ _ _ _ _ _ _ _ _ _ _ | exact LeO.refl _ | exact LeO.none _ | refine LeO.ite ?_ ?_ | refine LeO.bind ?_ (fun _ => ?_)) | exact ih0 _ _ _ _ | exact ih1 _ _ _ _ | exact palingref11_one.mono _ _ _ _ _ _ _ _ _ _ _ | exact LeO.none _ | refine LeO.ite ?_ ?_ | refine LeO.bind ?_ (fun _ => ?_))
set_option maxHeartbeats 8000000 in
set_option maxRecDepth 100000 in
theorem palingref11_Check.calls (k : Nat) (A0 : Option Addr) (c0 : Nat) (l0 : List (S53)) (a1 : Int) (a2 : Int) (r : Bool) (w : World) (hr0 : Kd.C k53 w A0 l0.length l0) (hc0 : l0.length ≤ c0) (h : palingref11_Check.f k l0 a1 a2 = some r) :
    Calls Tryd.prog 8 #[.slice A0 l0.length c0, .int .i64 a1, .int .i64 a2] w fun e w' => e = .returned (.bool r) ∧ Below w.heap.size w w' := by
 have hu53 := Tryd.underlying53
 have HR0 := Aside0.mk hr0
 have HC0 := Aside0.mk hc0
 clear hr0 hc0
 have HB := Aside0.mk (Below.refl w.heap.size w)
 have H : (if (l0.length : Int) < 1 then (palingref11_Check.j0 k l0 a1 a2 true) else (palingref11_Check.j0 k l0 a1 a2 (decide ((l0.length : Int) > 4096)))) = some r := h
 clear h
 have HC4 := Aside0.mk H
 clear H
 go_enter Tryd.func8, Tryd.ntmps8
 go_upto_region 1 with (fail)
 go_cut [17] (fun v17 wc => ∃ (kq : Nat) (x17_3 : Bool), v17 = .bool x17_3 ∧ Aside0 (palingref11_Check.j0 kq l0 a1 a2 x17_3 = some r) ∧ Aside0 (kq ≤ k) ∧ Aside0 (Below w.heap.size w wc))
 case first =>
  have H := HC4.out
  clear HC4
  by_cases c5 : (l0.length : Int) < 1
  ·rw [if_pos c5] at H
   have c5b0 : decide ((l0.length : Int) < 1) = true := decide_eq_true c5
   have c5b1 : decide (l0.length < 1) = true := decide_eq_true (by omega)
   clear c5
   (first | rw [c5b0] | (simp only [i64_w, i32_w]; rw [c5b0]) | skip)
   have H' := Aside0.mk H
   clear H
   go_wp2
   go_meet
   case rel => exact ⟨_, (true), aq1, H', ⟨aq16⟩, ⟨aq0⟩⟩
  rw [if_neg c5] at H
  have c5b0 : decide ((l0.length : Int) < 1) = false := decide_eq_false c5
  have c5b1 : decide (l0.length < 1) = false := decide_eq_false (by omega)
  clear c5
  (first | rw [c5b0] | (simp only [i64_w, i32_w]; rw [c5b0]) | skip)
  have H' := Aside0.mk H
  clear H
  go_wp2
  go_meet
  case rel => exact ⟨_, (decide ((l0.length : Int) > 4096)), aq1, H', ⟨aq16⟩, ⟨aq0⟩⟩
 case rest =>
  clear HC4
  obtain ⟨kq, x17_3, rfl, HA, HJ3, HB⟩ := hcut
  cases kq with
  | zero => exact absurd HA.out (by simp [palingref11_Check.j0])
  | succ kj3 =>
   have H := HA.out
   clear HA
   simp only [palingref11_Check.j0] at H
   by_cases c6 : x17_3 = true
   ·subst c6
    rw [if_pos rfl] at H
    obtain rfl := Option.some.inj H
    go_wp2
    go_ret
    exact ⟨aq6, aq0⟩
   replace c6 := Bool.eq_false_iff.mpr c6
   subst c6
   rw [if_neg nf_] at H
   have H' := Aside0.mk H
   clear H
   go_wp2
   go_loopg [7] kj3 (fun kq v7 w' => ∃ (x7_2 : Int), v7 = .int .i64 x7_2 ∧ Aside0 (palingref11_Check.l0 kq l0 a1 a2 x7_2 = some r) ∧ Aside0 (kq ≤ kj3) ∧ Aside0 (Below w.heap.size w w'))
   case atStart => exact ⟨(0), aq1, H', ⟨Nat.le_refl _⟩, ⟨aq0⟩⟩
   case round =>
    clear H'
    obtain ⟨x7_2, rfl, HA, HK2, HB⟩ := hrel
    cases gk with
    | zero => exact absurd HA.out (by simp [palingref11_Check.l0])
    | succ k2 =>
     have H := HA.out
     clear HA
     simp only [palingref11_Check.l0] at H
     by_cases c7 : x7_2 < (l0.length : Int)
     ·rw [if_pos c7] at H
      have c7b0 : decide (x7_2 < (l0.length : Int)) = true := decide_eq_true c7
      clear c7
      by_cases c8 : 0 ≤ x7_2
      rotate_left
      ·rw [if_neg c8] at H
       exact absurd H (by simp)
      rw [if_pos c8] at H
      have c8b0 : decide (0 ≤ x7_2) = true := decide_eq_true c8
      clear c8
      obtain ⟨t107, A9, H⟩ := bS_ H
      by_cases c10 : t107 = true
      rotate_left
      ·replace c10 := Bool.eq_false_iff.mpr c10
       subst c10
       rw [if_neg nf_] at H
       obtain rfl := Option.some.inj H
       have p106 : 0 ≤ (x7_2 : Int) := of_decide_eq_true aq4
       have q106 : x7_2 < (l0.length : Int) := of_decide_eq_true aq4
       obtain ⟨ad106, e106, hx106_0, hx106_1, hx106_2, hx106_3, hx106_4, hx106_5, hx106_6⟩ := at_T53 HR0.out x7_2 p106 q106
       cases e106
       have n_ := cb7 HB.out hx106_0 hx106_1 hx106_2 hx106_3 hx106_4 hx106_5 hx106_6
       clear hx106_0 hx106_1 hx106_2 hx106_3 hx106_4 hx106_5 hx106_6
       obtain ⟨hx106_0, hx106_1, hx106_2, hx106_3, hx106_4, hx106_5, hx106_6⟩ := n_
       replace p106 := eq_true p106
       replace q106 := eq_true q106
       go_wp2_with (first | ((with_reducible refine gate_callee (f := 18) rfl ?_); refine goesL_ (some 32) rfl rfl Tryd.func18 (by kernel_rfl) rfl #[.agg #[.int .i64 ((rd_T53 l0 x7_2).f0), .int .i64 ((rd_T53 l0 x7_2).f1), .int .i64 ((rd_T53 l0 x7_2).f2), .int .i64 ((rd_T53 l0 x7_2).f3), .int .i64 ((rd_T53 l0 x7_2).f4), .int .i64 ((rd_T53 l0 x7_2).f5), .int .i64 ((rd_T53 l0 x7_2).f6)], .int .i64 (l0.length : Int), .int .i64 a1, .int .i64 a2] rfl aq3 ?_; (with_reducible refine (palingref11_one.calls k2 ((rd_T53 l0 x7_2).f0) ((rd_T53 l0 x7_2).f1) ((rd_T53 l0 x7_2).f2) ((rd_T53 l0 x7_2).f3) ((rd_T53 l0 x7_2).f4) ((rd_T53 l0 x7_2).f5) ((rd_T53 l0 x7_2).f6) (l0.length : Int) a1 a2 false _ A9.out).mono ?_); rintro e w12 ⟨rfl, hb⟩; refine ⟨_, rfl, ?_⟩; replace HB := Aside0.mk (below_step aq0 hb); (try clear hb); (try clear hb2); (try clear hk); (try clear hi)))
       go_ret
       exact ⟨aq6, aq0⟩
      subst c10
      rw [if_pos rfl] at H
      have H' := Aside0.mk H
      clear H
      have p106 : 0 ≤ (x7_2 : Int) := of_decide_eq_true aq4
      have q106 : x7_2 < (l0.length : Int) := of_decide_eq_true aq4
      obtain ⟨ad106, e106, hx106_0, hx106_1, hx106_2, hx106_3, hx106_4, hx106_5, hx106_6⟩ := at_T53 HR0.out x7_2 p106 q106
      cases e106
      have n_ := cb7 HB.out hx106_0 hx106_1 hx106_2 hx106_3 hx106_4 hx106_5 hx106_6
      clear hx106_0 hx106_1 hx106_2 hx106_3 hx106_4 hx106_5 hx106_6
      obtain ⟨hx106_0, hx106_1, hx106_2, hx106_3, hx106_4, hx106_5, hx106_6⟩ := n_
      replace p106 := eq_true p106
      replace q106 := eq_true q106
      go_wp2_with (first | ((with_reducible refine gate_callee (f := 18) rfl ?_); refine goesL_ (some 32) rfl rfl Tryd.func18 (by kernel_rfl) rfl #[.agg #[.int .i64 ((rd_T53 l0 x7_2).f0), .int .i64 ((rd_T53 l0 x7_2).f1), .int .i64 ((rd_T53 l0 x7_2).f2), .int .i64 ((rd_T53 l0 x7_2).f3), .int .i64 ((rd_T53 l0 x7_2).f4), .int .i64 ((rd_T53 l0 x7_2).f5), .int .i64 ((rd_T53 l0 x7_2).f6)], .int .i64 (l0.length : Int), .int .i64 a1, .int .i64 a2] rfl aq3 ?_; (with_reducible refine (palingref11_one.calls k2 ((rd_T53 l0 x7_2).f0) ((rd_T53 l0 x7_2).f1) ((rd_T53 l0 x7_2).f2) ((rd_T53 l0 x7_2).f3) ((rd_T53 l0 x7_2).f4) ((rd_T53 l0 x7_2).f5) ((rd_T53 l0 x7_2).f6) (l0.length : Int) a1 a2 true _ A9.out).mono ?_); rintro e w11 ⟨rfl, hb⟩; refine ⟨_, rfl, ?_⟩; replace HB := Aside0.mk (below_step aq0 hb); (try clear hb); (try clear hb2); (try clear hk); (try clear hi)))
      go_roundg k2
      case measure => have := HJ3.out; have := HK2.out; omega
      case rel => exact ⟨(wrap64 (x7_2 + 1)), aq1, H', ⟨by have := HJ3.out; have := HK2.out; omega⟩, ⟨aq0⟩⟩
     rw [if_neg c7] at H
     have c7b0 : decide (x7_2 < (l0.length : Int)) = false := decide_eq_false c7
     clear c7
     obtain ⟨ji13, hji13⟩ : ∃ j_ : Int, (wrap64 ((l0.length : Int) - 1)) = j_ := ⟨_, rfl⟩
     replace H : (if 0 ≤ (ji13) then (if (ji13) < (l0.length : Int) then (if ((rd_T53 l0 (ji13)).f0) = 6 then (some true) else (if ((rd_T53 l0 (ji13)).f0) = 12 then (some true) else (some (((rd_T53 l0 (ji13)).f0) == 13)))) else (none)) else (none)) = some r := by first | (rw [hji13] at H; exact H) | (simp only [hji13] at H ⊢; exact H)
     have hji13w : (IntKind.i64.wrap ((l0.length : Int) - 1)) = ji13 := (i64_w _).trans hji13
     by_cases c14 : 0 ≤ (ji13)
     rotate_left
     ·rw [if_neg c14] at H
      exact absurd H (by simp)
     rw [if_pos c14] at H
     have c14b0 : decide (0 ≤ (ji13)) = true := decide_eq_true c14
     clear c14
     by_cases c15 : (ji13) < (l0.length : Int)
     rotate_left
     ·rw [if_neg c15] at H
      exact absurd H (by simp)
     rw [if_pos c15] at H
     have c15b0 : decide ((ji13) < (l0.length : Int)) = true := decide_eq_true c15
     clear c15
     by_cases c16 : ((rd_T53 l0 (ji13)).f0) = 6
     ·rw [if_pos c16] at H
      have c16b0 : (((rd_T53 l0 (ji13)).f0) == 6) = true := beq_iff_eq.mpr c16
      have c16b1 : (((rd_T53 l0 (ji13)).f0) != 6) = false := bne_eq_false_iff_eq.mpr c16
      clear c16
      obtain rfl := Option.some.inj H
      have p108 : 0 ≤ ((ji13) : Int) := of_decide_eq_true aq4
      have q108 : (ji13) < (l0.length : Int) := of_decide_eq_true aq4
      obtain ⟨ad108, e108, hx108_0, hx108_1, hx108_2, hx108_3, hx108_4, hx108_5, hx108_6⟩ := at_T53 HR0.out (ji13) p108 q108
      cases e108
      have n_ := cb7 HB.out hx108_0 hx108_1 hx108_2 hx108_3 hx108_4 hx108_5 hx108_6
      clear hx108_0 hx108_1 hx108_2 hx108_3 hx108_4 hx108_5 hx108_6
      obtain ⟨hx108_0, hx108_1, hx108_2, hx108_3, hx108_4, hx108_5, hx108_6⟩ := n_
      replace p108 := eq_true p108
      replace q108 := eq_true q108
      go_wp2
      go_ret
      exact ⟨aq11, aq0⟩
     rw [if_neg c16] at H
     have c16b0 : (((rd_T53 l0 (ji13)).f0) == 6) = false := beq_eq_false_iff_ne.mpr c16
     have c16b1 : (((rd_T53 l0 (ji13)).f0) != 6) = true := bne_iff_ne.mpr c16
     by_cases c17 : ((rd_T53 l0 (ji13)).f0) = 12
     rotate_left
     ·rw [if_neg c17] at H
      have c17b0 : (((rd_T53 l0 (ji13)).f0) == 12) = false := beq_eq_false_iff_ne.mpr c17
      have c17b1 : (((rd_T53 l0 (ji13)).f0) != 12) = true := bne_iff_ne.mpr c17
      obtain rfl := Option.some.inj H
      have p108 : 0 ≤ ((ji13) : Int) := of_decide_eq_true aq4
      have q108 : (ji13) < (l0.length : Int) := of_decide_eq_true aq4
      obtain ⟨ad108, e108, hx108_0, hx108_1, hx108_2, hx108_3, hx108_4, hx108_5, hx108_6⟩ := at_T53 HR0.out (ji13) p108 q108
      cases e108
      have n_ := cb7 HB.out hx108_0 hx108_1 hx108_2 hx108_3 hx108_4 hx108_5 hx108_6
      clear hx108_0 hx108_1 hx108_2 hx108_3 hx108_4 hx108_5 hx108_6
      obtain ⟨hx108_0, hx108_1, hx108_2, hx108_3, hx108_4, hx108_5, hx108_6⟩ := n_
      replace p108 := eq_true p108
      replace q108 := eq_true q108
      go_wp2
      go_ret
      exact ⟨aq11, aq0⟩
     rw [if_pos c17] at H
     have c17b0 : (((rd_T53 l0 (ji13)).f0) == 12) = true := beq_iff_eq.mpr c17
     have c17b1 : (((rd_T53 l0 (ji13)).f0) != 12) = false := bne_eq_false_iff_eq.mpr c17
     clear c17
     obtain rfl := Option.some.inj H
     have p108 : 0 ≤ ((ji13) : Int) := of_decide_eq_true aq4
     have q108 : (ji13) < (l0.length : Int) := of_decide_eq_true aq4
     obtain ⟨ad108, e108, hx108_0, hx108_1, hx108_2, hx108_3, hx108_4, hx108_5, hx108_6⟩ := at_T53 HR0.out (ji13) p108 q108
     cases e108
     have n_ := cb7 HB.out hx108_0 hx108_1 hx108_2 hx108_3 hx108_4 hx108_5 hx108_6
     clear hx108_0 hx108_1 hx108_2 hx108_3 hx108_4 hx108_5 hx108_6
     obtain ⟨hx108_0, hx108_1, hx108_2, hx108_3, hx108_4, hx108_5, hx108_6⟩ := n_
     replace p108 := eq_true p108
     replace q108 := eq_true q108
     go_wp2
     go_ret
     exact ⟨aq11, aq0⟩
/-! ### palingref12_Get: function 16 -/
def palingref12_Get.l0 : Nat → List (S69) → Int → Int → Option (Int)
  | 0, _, _, _ => none
  | k + 1, x0, x1, x5 => if x5 < (x0.length : Int) then (if 0 ≤ x5 then (if ((rd_T69 x0 x5).f0) = x1 then (some ((rd_T69 x0 x5).f1)) else (palingref12_Get.l0 k x0 x1 (wrap64 (x5 + 1)))) else (none)) else (some 0)
def palingref12_Get.f (k : Nat) (l0 : List (S69)) (a1 : Int) : Option (Int) := palingref12_Get.l0 k l0 a1 0
theorem palingref12_Get.mono_l : ∀ k, (∀ y0 y1 y2, LeO (palingref12_Get.l0 k y0 y1 y2) (palingref12_Get.l0 (k + 1) y0 y1 y2))
  | 0 => fun _ _ _ r h => by simp [palingref12_Get.l0] at h
  | k + 1 => by
    have ih0 := palingref12_Get.mono_l k
    intros <;> unfold palingref12_Get.l0 <;> repeat' (first | (with_reducible first | exact ih0 _ _ _ | exact LeO.refl _ | exact LeO.none _ | refine LeO.ite ?_ ?_ | refine LeO.bind ?_ (fun _ => ?_)) | exact ih0 _ _ _ | exact LeO.none _ | refine LeO.ite ?_ ?_ | refine LeO.bind ?_ (fun _ => ?_))
theorem palingref12_Get.mono : ∀ a0 a1 k, LeO (palingref12_Get.f k a0 a1) (palingref12_Get.f (k + 1) a0 a1) := by
 intro a0 a1 k
 have ih0 := palingref12_Get.mono_l k
 unfold palingref12_Get.f
 repeat' (first | (with_reducible first | exact ih0 _ _ _ | exact LeO.refl _ | exact LeO.none _ | refine LeO.ite ?_ ?_ | refine LeO.bind ?_ (fun _ => ?_)) | exact ih0 _ _ _ | exact LeO.none _ | refine LeO.ite ?_ ?_ | refine LeO.bind ?_ (fun _ => ?_))
set_option maxHeartbeats 8000000 in
set_option maxRecDepth 100000 in
theorem palingref12_Get.calls (k : Nat) (A0 : Option Addr) (c0 : Nat) (l0 : List (S69)) (a1 : Int) (r : Int) (w : World) (hr0 : Kd.C k69 w A0 l0.length l0) (hc0 : l0.length ≤ c0) (h : palingref12_Get.f k l0 a1 = some r) :
    Calls Tryd.prog 16 #[.slice A0 l0.length c0, .int .i64 a1] w fun e w' => e = .returned (.int .i64 r) ∧ Drawn0 w w' := by
 have HR0 := Aside0.mk hr0
 have HC0 := Aside0.mk hc0
 clear hr0 hc0
 have H : (palingref12_Get.l0 k l0 a1 0) = some r := h
 clear h
 have H' := Aside0.mk H
 clear H
 go_enter Tryd.func16, Tryd.ntmps16
 go_wp2
 go_loopg [5] k (fun kq v5 w' => ∃ (x5_1 : Int), v5 = .int .i64 x5_1 ∧ Aside0 (palingref12_Get.l0 kq l0 a1 x5_1 = some r) ∧ Aside0 (kq ≤ k) ∧ Drawn0 w w')
 case atStart => exact ⟨(0), aq1, H', ⟨Nat.le_refl _⟩, aq2⟩
 case round =>
  clear H'
  obtain ⟨x5_1, rfl, HA, HK1, ⟨m1, rfl⟩⟩ := hrel
  cases gk with
  | zero => exact absurd HA.out (by simp [palingref12_Get.l0])
  | succ k1 =>
   have H := HA.out
   clear HA
   simp only [palingref12_Get.l0] at H
   by_cases c3 : x5_1 < (l0.length : Int)
   rotate_left
   ·rw [if_neg c3] at H
    have c3b0 : decide (x5_1 < (l0.length : Int)) = false := decide_eq_false c3
    clear c3
    obtain rfl := Option.some.inj H
    go_wp2
    go_ret
    exact ⟨aq1, aq2⟩
   rw [if_pos c3] at H
   have c3b0 : decide (x5_1 < (l0.length : Int)) = true := decide_eq_true c3
   clear c3
   by_cases c4 : 0 ≤ x5_1
   rotate_left
   ·rw [if_neg c4] at H
    exact absurd H (by simp)
   rw [if_pos c4] at H
   have c4b0 : decide (0 ≤ x5_1) = true := decide_eq_true c4
   clear c4
   by_cases c5 : ((rd_T69 l0 x5_1).f0) = a1
   rotate_left
   ·rw [if_neg c5] at H
    have c5b0 : (((rd_T69 l0 x5_1).f0) == a1) = false := beq_eq_false_iff_ne.mpr c5
    have c5b1 : (((rd_T69 l0 x5_1).f0) != a1) = true := bne_iff_ne.mpr c5
    have H' := Aside0.mk H
    clear H
    have p109 : 0 ≤ (x5_1 : Int) := of_decide_eq_true aq4
    have q109 : x5_1 < (l0.length : Int) := of_decide_eq_true aq4
    obtain ⟨ad109, e109, hx109_0, hx109_1⟩ := at_T69 HR0.out x5_1 p109 q109
    cases e109
    replace p109 := eq_true p109
    replace q109 := eq_true q109
    go_wp2
    go_roundg k1
    case measure => have := HK1.out; omega
    case rel => exact ⟨(wrap64 (x5_1 + 1)), aq1, H', ⟨aq15⟩, aq2⟩
   rw [if_pos c5] at H
   have c5b0 : (((rd_T69 l0 x5_1).f0) == a1) = true := beq_iff_eq.mpr c5
   have c5b1 : (((rd_T69 l0 x5_1).f0) != a1) = false := bne_eq_false_iff_eq.mpr c5
   clear c5
   obtain rfl := Option.some.inj H
   have p109 : 0 ≤ (x5_1 : Int) := of_decide_eq_true aq4
   have q109 : x5_1 < (l0.length : Int) := of_decide_eq_true aq4
   obtain ⟨ad109, e109, hx109_0, hx109_1⟩ := at_T69 HR0.out x5_1 p109 q109
   cases e109
   replace p109 := eq_true p109
   replace q109 := eq_true q109
   have p110 : 0 ≤ (x5_1 : Int) := of_decide_eq_true aq4
   have q110 : x5_1 < (l0.length : Int) := of_decide_eq_true aq4
   obtain ⟨ad110, e110, hx110_0, hx110_1⟩ := at_T69 HR0.out x5_1 p110 q110
   obtain rfl : ad109 = ad110 := (by injection e110)
   replace p110 := eq_true p110
   replace q110 := eq_true q110
   go_wp2
   go_ret
   exact ⟨aq1, aq2⟩
/-! ### slices_Index_int_int: function 51 -/
def slices_Index_int_int.l0 : Nat → List Int → Int → Int → Int → Option (Int)
  | 0, _, _, _, _ => none
  | k + 1, x0, x1, x7, x8 => if x8 < x7 then (if 0 ≤ x8 then (if x8 < (x0.length : Int) then (if x1 = (rd x0 x8) then (some x8) else (slices_Index_int_int.l0 k x0 x1 x7 (wrap64 (x8 + 1)))) else (none)) else (none)) else (some (-1))
def slices_Index_int_int.f (k : Nat) (l0 : List Int) (a1 : Int) : Option (Int) := slices_Index_int_int.l0 k l0 a1 (l0.length : Int) 0
theorem slices_Index_int_int.mono_l : ∀ k, (∀ y0 y1 y2 y3, LeO (slices_Index_int_int.l0 k y0 y1 y2 y3) (slices_Index_int_int.l0 (k + 1) y0 y1 y2 y3))
  | 0 => fun _ _ _ _ r h => by simp [slices_Index_int_int.l0] at h
  | k + 1 => by
    have ih0 := slices_Index_int_int.mono_l k
    intros <;> unfold slices_Index_int_int.l0 <;> repeat' (first | (with_reducible first | exact ih0 _ _ _ _ | exact LeO.refl _ | exact LeO.none _ | refine LeO.ite ?_ ?_ | refine LeO.bind ?_ (fun _ => ?_)) | exact ih0 _ _ _ _ | exact LeO.none _ | refine LeO.ite ?_ ?_ | refine LeO.bind ?_ (fun _ => ?_))
theorem slices_Index_int_int.mono : ∀ a0 a1 k, LeO (slices_Index_int_int.f k a0 a1) (slices_Index_int_int.f (k + 1) a0 a1) := by
 intro a0 a1 k
 have ih0 := slices_Index_int_int.mono_l k
 unfold slices_Index_int_int.f
 repeat' (first | (with_reducible first | exact ih0 _ _ _ _ | exact LeO.refl _ | exact LeO.none _ | refine LeO.ite ?_ ?_ | refine LeO.bind ?_ (fun _ => ?_)) | exact ih0 _ _ _ _ | exact LeO.none _ | refine LeO.ite ?_ ?_ | refine LeO.bind ?_ (fun _ => ?_))
set_option maxHeartbeats 8000000 in
set_option maxRecDepth 100000 in
theorem slices_Index_int_int.calls (k : Nat) (A0 : Option Addr) (c0 : Nat) (l0 : List Int) (a1 : Int) (r : Int) (w : World) (hr0 : Kd.C (Kd.int .i64) w A0 l0.length l0) (hc0 : l0.length ≤ c0) (h : slices_Index_int_int.f k l0 a1 = some r) :
    Calls Tryd.prog 51 #[.slice A0 l0.length c0, .int .i64 a1] w fun e w' => e = .returned (.int .i64 r) ∧ Drawn0 w w' := by
 have HR0 := Aside0.mk hr0
 have HC0 := Aside0.mk hc0
 clear hr0 hc0
 have H : (slices_Index_int_int.l0 k l0 a1 (l0.length : Int) 0) = some r := h
 clear h
 have H' := Aside0.mk H
 clear H
 go_enter Tryd.func51, Tryd.ntmps51
 go_wp2
 go_loopg [8] k (fun kq v8 w' => ∃ (x8_1 : Int), v8 = .int .i64 x8_1 ∧ Aside0 (slices_Index_int_int.l0 kq l0 a1 (l0.length : Int) x8_1 = some r) ∧ Aside0 (kq ≤ k) ∧ Drawn0 w w')
 case atStart => exact ⟨(0), aq1, H', ⟨Nat.le_refl _⟩, aq2⟩
 case round =>
  clear H'
  obtain ⟨x8_1, rfl, HA, HK1, ⟨m1, rfl⟩⟩ := hrel
  cases gk with
  | zero => exact absurd HA.out (by simp [slices_Index_int_int.l0])
  | succ k1 =>
   have H := HA.out
   clear HA
   simp only [slices_Index_int_int.l0] at H
   by_cases c3 : x8_1 < (l0.length : Int)
   rotate_left
   ·rw [if_neg c3] at H
    have c3b0 : decide (x8_1 < (l0.length : Int)) = false := decide_eq_false c3
    clear c3
    obtain rfl := Option.some.inj H
    go_wp2
    go_ret
    exact ⟨aq1, aq2⟩
   rw [if_pos c3] at H
   have c3b0 : decide (x8_1 < (l0.length : Int)) = true := decide_eq_true c3
   clear c3
   by_cases c4 : 0 ≤ x8_1
   rotate_left
   ·rw [if_neg c4] at H
    exact absurd H (by simp)
   rw [if_pos c4] at H
   have c4b0 : decide (0 ≤ x8_1) = true := decide_eq_true c4
   clear c4
   by_cases c5 : x8_1 < (l0.length : Int)
   rotate_left
   ·rw [if_neg c5] at H
    exact absurd H (by simp)
   rw [if_pos c5] at H
   have c5b0 : decide (x8_1 < (l0.length : Int)) = true := decide_eq_true c5
   clear c5
   by_cases c6 : a1 = (rd l0 x8_1)
   ·rw [if_pos c6] at H
    have c6b0 : (a1 == (rd l0 x8_1)) = true := beq_iff_eq.mpr c6
    have c6b1 : (a1 != (rd l0 x8_1)) = false := bne_eq_false_iff_eq.mpr c6
    clear c6
    obtain rfl := Option.some.inj H
    have p111 : 0 ≤ (x8_1 : Int) := of_decide_eq_true aq4
    have q111 : x8_1 < (l0.length : Int) := of_decide_eq_true aq4
    obtain ⟨ad111, e111, hx111_0⟩ := Kd.at_int HR0.out x8_1 p111 q111
    cases e111
    replace p111 := eq_true p111
    replace q111 := eq_true q111
    go_wp2
    go_ret
    exact ⟨aq1, aq2⟩
   rw [if_neg c6] at H
   have c6b0 : (a1 == (rd l0 x8_1)) = false := beq_eq_false_iff_ne.mpr c6
   have c6b1 : (a1 != (rd l0 x8_1)) = true := bne_iff_ne.mpr c6
   have H' := Aside0.mk H
   clear H
   have p111 : 0 ≤ (x8_1 : Int) := of_decide_eq_true aq4
   have q111 : x8_1 < (l0.length : Int) := of_decide_eq_true aq4
   obtain ⟨ad111, e111, hx111_0⟩ := Kd.at_int HR0.out x8_1 p111 q111
   cases e111
   replace p111 := eq_true p111
   replace q111 := eq_true q111
   go_wp2
   go_roundg k1
   case measure => have := HK1.out; omega
   case rel => exact ⟨(wrap64 (x8_1 + 1)), aq1, H', ⟨aq15⟩, aq2⟩
/-! ### slices_Contains_int_int: function 37 -/
def slices_Contains_int_int.f (k : Nat) (l0 : List Int) (a1 : Int) : Option (Bool) := (slices_Index_int_int.f k l0 a1).bind fun t112 => (some (decide (t112 ≥ 0)))
theorem slices_Contains_int_int.mono : ∀ a0 a1 k, LeO (slices_Contains_int_int.f k a0 a1) (slices_Contains_int_int.f (k + 1) a0 a1) := by
 intro a0 a1 k
 unfold slices_Contains_int_int.f
 repeat' (first | (with_reducible first | exact slices_Index_int_int.mono _ _ _ | exact LeO.refl _ | exact LeO.none _ | refine LeO.ite ?_ ?_ | refine LeO.bind ?_ (fun _ => ?_)) | exact slices_Index_int_int.mono _ _ _ | exact LeO.none _ | refine LeO.ite ?_ ?_ | refine LeO.bind ?_ (fun _ => ?_))
set_option maxHeartbeats 8000000 in
set_option maxRecDepth 100000 in
theorem slices_Contains_int_int.calls (k : Nat) (A0 : Option Addr) (c0 : Nat) (l0 : List Int) (a1 : Int) (r : Bool) (w : World) (hr0 : Kd.C (Kd.int .i64) w A0 l0.length l0) (hc0 : l0.length ≤ c0) (h : slices_Contains_int_int.f k l0 a1 = some r) :
    Calls Tryd.prog 37 #[.slice A0 l0.length c0, .int .i64 a1] w fun e w' => e = .returned (.bool r) ∧ Drawn0 w w' := by
 have HR0 := Aside0.mk hr0
 have HC0 := Aside0.mk hc0
 clear hr0 hc0
 have H : ((slices_Index_int_int.f k l0 a1).bind fun t112 => (some (decide (t112 ≥ 0)))) = some r := h
 clear h
 obtain ⟨t112, A3, H⟩ := bS_ H
 obtain rfl := Option.some.inj H
 go_enter Tryd.func37, Tryd.ntmps37
 go_wp2_with (first | ((with_reducible refine gate_callee (f := 51) rfl ?_); refine goesL_ (some 7) rfl rfl Tryd.func51 (by kernel_rfl) rfl #[.slice A0 l0.length c0, .int .i64 a1] rfl aq3 ?_; (with_reducible refine (slices_Index_int_int.calls k _ _ l0 a1 t112 _ ?side1 ?side2 A3.out).mono ?_); (case side1 => repeat (first | exact HR0.out | (with_reducible refine Kd.C_alloc ?_ _) | (with_reducible refine Kd.C_drewN ?_ _) | (with_reducible refine Kd.C_drew ?_))); (case side2 => exact HC0.out); rintro e w' ⟨rfl, ⟨nd, rfl⟩⟩; refine ⟨_, rfl, ?_⟩))
 go_ret
 exact ⟨aq1, aq2⟩
/-! ### palingref12_Put: function 42 -/
def palingref12_Put.l0 : Nat → List (S69) → Int → Int → List (S69) → Int → Option ((List (S69)))
  | 0, _, _, _, _, _ => none
  | k + 1, x0, x1, x2, x7, x8 => if x8 < (x0.length : Int) then (if 0 ≤ x8 then (if ((rd_T69 x0 x8).f0) = x1 then (palingref12_Put.l0 k x0 x1 x2 x7 (wrap64 (x8 + 1))) else (if x7.length < 8796093022208 then (palingref12_Put.l0 k x0 x1 x2 (x7 ++ [(⟨(rd_T69 x0 x8).f0, (rd_T69 x0 x8).f1⟩ : S69)]) (wrap64 (x8 + 1))) else (none))) else (none)) else (if x7.length < 8796093022208 then (some (x7 ++ [(⟨x1, x2⟩ : S69)])) else (none))
def palingref12_Put.f (k : Nat) (l0 : List (S69)) (a1 : Int) (a2 : Int) : Option ((List (S69))) := if a1 < 0 then (some l0) else (palingref12_Put.l0 k l0 a1 a2 ([] : List (S69)) 0)
theorem palingref12_Put.mono_l : ∀ k, (∀ y0 y1 y2 y3 y4, LeO (palingref12_Put.l0 k y0 y1 y2 y3 y4) (palingref12_Put.l0 (k + 1) y0 y1 y2 y3 y4))
  | 0 => fun _ _ _ _ _ r h => by simp [palingref12_Put.l0] at h
  | k + 1 => by
    have ih0 := palingref12_Put.mono_l k
    intros <;> unfold palingref12_Put.l0 <;> repeat' (first | (with_reducible first | exact ih0 _ _ _ _ _ | exact LeO.refl _ | exact LeO.none _ | refine LeO.ite ?_ ?_ | refine LeO.bind ?_ (fun _ => ?_)) | exact ih0 _ _ _ _ _ | exact LeO.none _ | refine LeO.ite ?_ ?_ | refine LeO.bind ?_ (fun _ => ?_))
theorem palingref12_Put.mono : ∀ a0 a1 a2 k, LeO (palingref12_Put.f k a0 a1 a2) (palingref12_Put.f (k + 1) a0 a1 a2) := by
 intro a0 a1 a2 k
 have ih0 := palingref12_Put.mono_l k
 unfold palingref12_Put.f
 repeat' (first | (with_reducible first | exact ih0 _ _ _ _ _ | exact LeO.refl _ | exact LeO.none _ | refine LeO.ite ?_ ?_ | refine LeO.bind ?_ (fun _ => ?_)) | exact ih0 _ _ _ _ _ | exact LeO.none _ | refine LeO.ite ?_ ?_ | refine LeO.bind ?_ (fun _ => ?_))
set_option maxHeartbeats 8000000 in
set_option maxRecDepth 100000 in
theorem palingref12_Put.calls (k : Nat) (P0_ : Nat → Prop) (u9000_ : Value) (l0 : List (S69)) (a1 : Int) (a2 : Int) (r : List (S69)) (w0 w : World) (hB : Below w0.heap.size w0 w) (ho0 : Kd.R k69 69 w w0.heap.size P0_ u9000_ l0) (h : palingref12_Put.f k l0 a1 a2 = some r) :
    Calls Tryd.prog 42 #[u9000_, .int .i64 a1, .int .i64 a2] w fun e w' => ∃ v0_ : Value, e = .returned (v0_) ∧ Kd.R k69 69 w' w0.heap.size (fun k_ => (P0_ k_ ∨ w.heap.size ≤ k_)) v0_ r ∧ Below w0.heap.size w0 w' ∧ Kept w w' (fun k_ => P0_ k_) := by
 have hu69 := Tryd.underlying69
 have HO0 := Aside0.mk (show Kd.R k69 69 w w0.heap.size (fun k_ => (P0_ k_ ∨ w.heap.size ≤ k_)) u9000_ l0 from Kd.R_mono ho0 (fun k_ hk => (.inl hk)))
 have HK := Aside0.mk (Kept.refl w (fun k_ => P0_ k_))
 have HW0 := Aside0.mk hB.size
 have HB := Aside0.mk hB
 clear hB
 have H : (if a1 < 0 then (some l0) else (palingref12_Put.l0 k l0 a1 a2 ([] : List (S69)) 0)) = some r := h
 clear h
 by_cases c4 : a1 < 0
 ·rw [if_pos c4] at H
  have c4b0 : decide (a1 < 0) = true := decide_eq_true c4
  clear c4
  obtain rfl := Option.some.inj H
  go_enter Tryd.func42, Tryd.ntmps42
  go_wp2
  go_ret
  exact ⟨_, aq6, by (with_reducible repeat (first | apply Kd.R_alloc | apply Kd.R_drewN | apply Kd.R_drew)); exact HO0.out, aq0, aq8⟩
 rw [if_neg c4] at H
 have c4b0 : decide (a1 < 0) = false := decide_eq_false c4
 clear c4
 have H' := Aside0.mk H
 clear H
 go_enter Tryd.func42, Tryd.ntmps42
 go_wp2
 go_loopg [7, 8] k (fun kq v7 v8 w' => ∃ (x7_1 : List (S69)) (x8_1 : Int), v8 = .int .i64 x8_1 ∧ Aside0 (palingref12_Put.l0 kq l0 a1 a2 x7_1 x8_1 = some r) ∧ Aside0 (kq ≤ k) ∧ Aside0 (Kd.R k69 69 w' w0.heap.size (fun k_ => (P0_ k_ ∨ w.heap.size ≤ k_) ∧ some k_ ≠ (v7 : Value).ownBlock) u9000_ l0) ∧ Aside0 (Kd.R k69 69 w' w0.heap.size (fun k_ => (P0_ k_ ∨ w.heap.size ≤ k_) ∧ some k_ ≠ (u9000_ : Value).ownBlock) v7 x7_1) ∧ Aside0 (Kept w w' (fun k_ => P0_ k_)) ∧ Aside0 (Below w0.heap.size w0 w'))
 case atStart => exact ⟨(([] : List (S69))), (0), aq1, H', ⟨Nat.le_refl _⟩, ⟨by (with_reducible repeat (first | apply Kd.R_alloc | apply Kd.R_drewN | apply Kd.R_drew)); exact Kd.R_mono HO0.out (fun _ hk => ⟨hk, (by simp [Value.ownBlock])⟩)⟩, ⟨by first | exact Kd.R_nil _ _ _ _ _ | exact Kd.N_nil _ _ _ _ _ | exact Kd.V_nil _ _ _ _ _ | exact Kd.Q_nil _ _ _ _ _ | exact Kd.S_nil _ _ _ _ _⟩, ⟨aq8⟩, ⟨aq0⟩⟩
 case round =>
  clear H'
  obtain ⟨x7_1, x8_1, rfl, HA, HK1, HO_0, HO_7, HK, HB⟩ := hrel
  cases gk with
  | zero => exact absurd HA.out (by simp [palingref12_Put.l0])
  | succ k1 =>
   have H := HA.out
   clear HA
   simp only [palingref12_Put.l0] at H
   by_cases c5 : x8_1 < (l0.length : Int)
   rotate_left
   ·rw [if_neg c5] at H
    have c5b0 : decide (x8_1 < (l0.length : Int)) = false := decide_eq_false c5
    clear c5
    by_cases c12 : x7_1.length < 8796093022208
    rotate_left
    ·rw [if_neg c12] at H
     exact absurd H (by simp)
    rw [if_pos c12] at H
    have LMc12 := Aside0.mk c12
    clear c12
    obtain ⟨y118, hy_⟩ : ∃ y_ : List (S69), y_ = (x7_1 ++ [(⟨a1, a2⟩ : S69)]) := ⟨_, rfl⟩
    replace H : (some y118) = some r := aq7
    have Ny118 := Aside0.mk hy_
    clear hy_
    obtain rfl := Option.some.inj H
    obtain ⟨Ao13, co13, eo13⟩ := Kd.R_slice HO_0.out
    subst eo13
    go_wp2_with (first | ((with_reducible refine gate_builtin (b := .append) (xs := #[.tmp 32, .tmp 36]) rfl ?_); at_builtin; refine Kd.R_append k69 (w0 := w0) w0.heap.size rfl (.tmp 32) (.tmp 36) 40 69 (.agg #[(.int .i64 0), (.int .i64 0)]) 16 rfl Tryd.underlying40 info69 rfl (by decide) (by omega) u7 x7_1 (⟨a1, a2⟩ : S69) [.int .i64 a1, .int .i64 a2] (fun k_ => (P0_ k_ ∨ w.heap.size ≤ k_) ∧ some k_ ≠ (.slice Ao13 l0.length co13 : Value).ownBlock) (fun _ => False) rfl rfl ?aP (fun _ hk => hk.elim) ?aF ?aO ?aB ?aS ?aL ?_; (case aP => exact k69_mkM _ _ _ (⟨a1, a2⟩ : S69)); (case aB => exact aq0); (case aF => exact (fun k_ hk => ⟨(.inr (Nat.le_trans (by first | exact HK.out.1 | exact (show Kept w _ (fun k_ => P0_ k_) from by repeat (first | (with_reducible first | exact HK.out | apply Kept.alloc | apply Kept.drewN | apply Kept.drew) | exact HK.out)).1) hk)), Kd.fresh' (Kd.R_lt aq10) k_ hk⟩)); (case aO => exact aq14); (case aS => exact (below_size aq0)); (case aL => have := LMc12.out; omega); intro v119 w14 ho hb hg hat; rw [← Ny118.out] at ho; replace HO_0 := Aside0.mk (Kd.R_after (ok := (fun k_ => (P0_ k_ ∨ w.heap.size ≤ k_))) aq10 hg hat); replace HB := Aside0.mk (hb); replace HK := Aside0.mk (Kept.of_grown (S := (fun k_ => P0_ k_)) hg aq8 (fun k_ e_ => (HO_7.out.1 k_ e_).1)); have HO120 := Aside0.mk (ho); clear HO_7; clear ho hb hg hat))
    go_ret
    exact ⟨_, aq6, by (with_reducible repeat (first | apply Kd.R_alloc | apply Kd.R_drewN | apply Kd.R_drew)); exact Kd.R_mono HO120.out (fun _ hk => hk.1), aq0, aq8⟩
   rw [if_pos c5] at H
   have c5b0 : decide (x8_1 < (l0.length : Int)) = true := decide_eq_true c5
   clear c5
   by_cases c6 : 0 ≤ x8_1
   rotate_left
   ·rw [if_neg c6] at H
    exact absurd H (by simp)
   rw [if_pos c6] at H
   have c6b0 : decide (0 ≤ x8_1) = true := decide_eq_true c6
   clear c6
   by_cases c7 : ((rd_T69 l0 x8_1).f0) = a1
   ·rw [if_pos c7] at H
    have c7b0 : (((rd_T69 l0 x8_1).f0) == a1) = true := beq_iff_eq.mpr c7
    have c7b1 : (((rd_T69 l0 x8_1).f0) != a1) = false := bne_eq_false_iff_eq.mpr c7
    clear c7
    have H' := Aside0.mk H
    clear H
    obtain ⟨Ao8, co8, eo8⟩ := Kd.R_slice HO_0.out
    subst eo8
    have p113 : 0 ≤ (x8_1 : Int) := of_decide_eq_true aq4
    have q113 : x8_1 < (l0.length : Int) := of_decide_eq_true aq4
    obtain ⟨ad113, e113, hx113_0, hx113_1⟩ := at_T69 (Kd.R_reads' HO_0.out).2.2 x8_1 p113 q113
    cases e113
    replace p113 := eq_true p113
    replace q113 := eq_true q113
    go_wp2
    go_roundg k1
    case measure => have := HK1.out; omega
    case rel => exact ⟨(x7_1), (wrap64 (x8_1 + 1)), aq1, H', ⟨aq15⟩, ⟨aq10⟩, ⟨aq14⟩, ⟨aq8⟩, ⟨aq0⟩⟩
   rw [if_neg c7] at H
   have c7b0 : (((rd_T69 l0 x8_1).f0) == a1) = false := beq_eq_false_iff_ne.mpr c7
   have c7b1 : (((rd_T69 l0 x8_1).f0) != a1) = true := bne_iff_ne.mpr c7
   by_cases c9 : x7_1.length < 8796093022208
   rotate_left
   ·rw [if_neg c9] at H
    exact absurd H (by simp)
   rw [if_pos c9] at H
   have LMc9 := Aside0.mk c9
   clear c9
   obtain ⟨y115, hy_⟩ : ∃ y_ : List (S69), y_ = (x7_1 ++ [(⟨(rd_T69 l0 x8_1).f0, (rd_T69 l0 x8_1).f1⟩ : S69)]) := ⟨_, rfl⟩
   replace H : (palingref12_Put.l0 k1 l0 a1 a2 y115 (wrap64 (x8_1 + 1))) = some r := aq7
   have Ny115 := Aside0.mk hy_
   clear hy_
   have H' := Aside0.mk H
   clear H
   obtain ⟨Ao10, co10, eo10⟩ := Kd.R_slice HO_0.out
   subst eo10
   have p113 : 0 ≤ (x8_1 : Int) := of_decide_eq_true aq4
   have q113 : x8_1 < (l0.length : Int) := of_decide_eq_true aq4
   obtain ⟨ad113, e113, hx113_0, hx113_1⟩ := at_T69 (Kd.R_reads' HO_0.out).2.2 x8_1 p113 q113
   cases e113
   replace p113 := eq_true p113
   replace q113 := eq_true q113
   have p114 : 0 ≤ (x8_1 : Int) := of_decide_eq_true aq4
   have q114 : x8_1 < (l0.length : Int) := of_decide_eq_true aq4
   obtain ⟨ad114, e114, hx114_0, hx114_1⟩ := at_T69 (Kd.R_reads' HO_0.out).2.2 x8_1 p114 q114
   obtain rfl : ad113 = ad114 := (by injection e114)
   replace p114 := eq_true p114
   replace q114 := eq_true q114
   go_wp2_with (first | ((with_reducible refine gate_builtin (b := .append) (xs := #[.tmp 25, .tmp 30]) rfl ?_); at_builtin; refine Kd.R_append k69 (w0 := w0) w0.heap.size rfl (.tmp 25) (.tmp 30) 40 69 (.agg #[(.int .i64 0), (.int .i64 0)]) 16 rfl Tryd.underlying40 info69 rfl (by decide) (by omega) u7 x7_1 (⟨(rd_T69 l0 x8_1).f0, (rd_T69 l0 x8_1).f1⟩ : S69) [.int .i64 ((rd_T69 l0 x8_1).f0), .int .i64 ((rd_T69 l0 x8_1).f1)] (fun k_ => (P0_ k_ ∨ w.heap.size ≤ k_) ∧ some k_ ≠ (.slice (some ad113) l0.length co10 : Value).ownBlock) (fun _ => False) rfl rfl ?aP (fun _ hk => hk.elim) ?aF ?aO ?aB ?aS ?aL ?_; (case aP => exact k69_mkM _ _ _ (⟨(rd_T69 l0 x8_1).f0, (rd_T69 l0 x8_1).f1⟩ : S69)); (case aB => exact aq0); (case aF => exact (fun k_ hk => ⟨(.inr (Nat.le_trans (by first | exact HK.out.1 | exact (show Kept w _ (fun k_ => P0_ k_) from by repeat (first | (with_reducible first | exact HK.out | apply Kept.alloc | apply Kept.drewN | apply Kept.drew) | exact HK.out)).1) hk)), Kd.fresh' (Kd.R_lt aq10) k_ hk⟩)); (case aO => exact aq14); (case aS => exact (below_size aq0)); (case aL => have := LMc9.out; omega); intro v116 w11 ho hb hg hat; rw [← Ny115.out] at ho; replace HO_0 := Aside0.mk (Kd.R_after (ok := (fun k_ => (P0_ k_ ∨ w.heap.size ≤ k_))) aq10 hg hat); replace HB := Aside0.mk (hb); replace HK := Aside0.mk (Kept.of_grown (S := (fun k_ => P0_ k_)) hg aq8 (fun k_ e_ => (HO_7.out.1 k_ e_).1)); have HO117 := Aside0.mk (ho); clear HO_7; clear ho hb hg hat))
   go_roundg k1
   case measure => have := HK1.out; omega
   case rel => exact ⟨(y115), (wrap64 (x8_1 + 1)), aq1, H', ⟨aq15⟩, ⟨aq10⟩, ⟨by (with_reducible repeat (first | apply Kd.R_alloc | apply Kd.R_drewN | apply Kd.R_drew)); exact HO117.out⟩, ⟨aq8⟩, ⟨aq0⟩⟩
/-! ### palingref01_div: function 77 -/
def palingref01_div.f (a0 : Int) (a1 : Int) : Option (Int) := if a1 = 0 then (some 0) else (if a1 = (-1) then (some (wrap64 (-a0))) else (some (wrap64 (Int.tdiv a0 a1))))
set_option maxHeartbeats 8000000 in
set_option maxRecDepth 100000 in
theorem palingref01_div.calls (a0 : Int) (a1 : Int) (r : Int) (w : World) (h : palingref01_div.f a0 a1 = some r) :
    Calls Tryd.prog 77 #[.int .i64 a0, .int .i64 a1] w fun e w' => e = .returned (.int .i64 r) ∧ Drawn0 w w' := by
 have H : (if a1 = 0 then (some 0) else (if a1 = (-1) then (some (wrap64 (-a0))) else (some (wrap64 (Int.tdiv a0 a1))))) = some r := h
 clear h
 by_cases c3 : a1 = 0
 ·rw [if_pos c3] at H
  have c3b0 : (a1 == 0) = true := beq_iff_eq.mpr c3
  have c3b1 : (a1 != 0) = false := bne_eq_false_iff_eq.mpr c3
  clear c3
  obtain rfl := Option.some.inj H
  go_enter Tryd.func77, Tryd.ntmps77
  go_wp2
  go_ret
  exact ⟨aq1, aq2⟩
 rw [if_neg c3] at H
 have c3b0 : (a1 == 0) = false := beq_eq_false_iff_ne.mpr c3
 have c3b1 : (a1 != 0) = true := bne_iff_ne.mpr c3
 by_cases c4 : a1 = (-1)
 rotate_left
 ·rw [if_neg c4] at H
  have c4b0 : (a1 == (-1)) = false := beq_eq_false_iff_ne.mpr c4
  have c4b1 : (a1 != (-1)) = true := bne_iff_ne.mpr c4
  obtain rfl := Option.some.inj H
  go_enter Tryd.func77, Tryd.ntmps77
  go_wp2
  go_ret
  exact ⟨aq1, aq2⟩
 rw [if_pos c4] at H
 have c4b0 : (a1 == (-1)) = true := beq_iff_eq.mpr c4
 have c4b1 : (a1 != (-1)) = false := bne_eq_false_iff_eq.mpr c4
 clear c4
 obtain rfl := Option.some.inj H
 go_enter Tryd.func77, Tryd.ntmps77
 go_wp2
 go_ret
 exact ⟨aq1, aq2⟩
/-! ### palingref01_shift: function 78 -/
def palingref01_shift.l0 : Nat → Int → Bool → Int → Int → Option (Int)
  | 0, _, _, _, _ => none
  | k + 1, x0, x2, x7, x8 => if x8 < x7 then (if x2 = true then (palingref01_shift.l0 k (wrap64 (x0 * 2)) x2 x7 (wrap64 (x8 + 1))) else (if x0 < 0 then (if (Int.tmod x0 2) = 0 then (palingref01_shift.l0 k (wrap64 (Int.tdiv x0 2)) x2 x7 (wrap64 (x8 + 1))) else (palingref01_shift.l0 k (wrap64 ((wrap64 (Int.tdiv x0 2)) - 1)) x2 x7 (wrap64 (x8 + 1)))) else (palingref01_shift.l0 k (wrap64 (Int.tdiv x0 2)) x2 x7 (wrap64 (x8 + 1))))) else (some x0)
def palingref01_shift.f (k : Nat) (a0 : Int) (a1 : Int) (a2 : Bool) : Option (Int) := palingref01_shift.l0 k a0 a2 (wrap64 (Int.tmod (IntKind.u64.wrap (a1)) 64)) 0
theorem palingref01_shift.mono_l : ∀ k, (∀ y0 y1 y2 y3, LeO (palingref01_shift.l0 k y0 y1 y2 y3) (palingref01_shift.l0 (k + 1) y0 y1 y2 y3))
  | 0 => fun _ _ _ _ r h => by simp [palingref01_shift.l0] at h
  | k + 1 => by
    have ih0 := palingref01_shift.mono_l k
    intros <;> unfold palingref01_shift.l0 <;> repeat' (first | (with_reducible first | exact ih0 _ _ _ _ | exact LeO.refl _ | exact LeO.none _ | refine LeO.ite ?_ ?_ | refine LeO.bind ?_ (fun _ => ?_)) | exact ih0 _ _ _ _ | exact LeO.none _ | refine LeO.ite ?_ ?_ | refine LeO.bind ?_ (fun _ => ?_))
theorem palingref01_shift.mono : ∀ a0 a1 a2 k, LeO (palingref01_shift.f k a0 a1 a2) (palingref01_shift.f (k + 1) a0 a1 a2) := by
 intro a0 a1 a2 k
 have ih0 := palingref01_shift.mono_l k
 unfold palingref01_shift.f
 repeat' (first | (with_reducible first | exact ih0 _ _ _ _ | exact LeO.refl _ | exact LeO.none _ | refine LeO.ite ?_ ?_ | refine LeO.bind ?_ (fun _ => ?_)) | exact ih0 _ _ _ _ | exact LeO.none _ | refine LeO.ite ?_ ?_ | refine LeO.bind ?_ (fun _ => ?_))
set_option maxHeartbeats 8000000 in
set_option maxRecDepth 100000 in
theorem palingref01_shift.calls (k : Nat) (a0 : Int) (a1 : Int) (a2 : Bool) (r : Int) (w : World) (h : palingref01_shift.f k a0 a1 a2 = some r) :
    Calls Tryd.prog 78 #[.int .i64 a0, .int .i64 a1, .bool a2] w fun e w' => e = .returned (.int .i64 r) ∧ Drawn0 w w' := by
 have H : (palingref01_shift.l0 k a0 a2 (wrap64 (Int.tmod (IntKind.u64.wrap (a1)) 64)) 0) = some r := h
 clear h
 have H' := Aside0.mk H
 clear H
 go_enter Tryd.func78, Tryd.ntmps78
 go_wp2
 go_loopg [0, 8] k (fun kq v0 v8 w' => ∃ (x0_1 : Int) (x8_1 : Int), v0 = .int .i64 x0_1 ∧ v8 = .int .i64 x8_1 ∧ Aside0 (palingref01_shift.l0 kq x0_1 a2 (wrap64 (Int.tmod (IntKind.u64.wrap (a1)) 64)) x8_1 = some r) ∧ Aside0 (kq ≤ k) ∧ Drawn0 w w')
 case atStart => exact ⟨(a0), (0), aq1, aq1, H', ⟨Nat.le_refl _⟩, aq2⟩
 case round =>
  clear H'
  obtain ⟨x0_1, x8_1, rfl, rfl, HA, HK1, ⟨m1, rfl⟩⟩ := hrel
  cases gk with
  | zero => exact absurd HA.out (by simp [palingref01_shift.l0])
  | succ k1 =>
   have H := HA.out
   clear HA
   simp only [palingref01_shift.l0] at H
   by_cases c4 : x8_1 < (wrap64 (Int.tmod (IntKind.u64.wrap (a1)) 64))
   rotate_left
   ·rw [if_neg c4] at H
    have c4b0 : decide (x8_1 < (wrap64 (Int.tmod (IntKind.u64.wrap (a1)) 64))) = false := decide_eq_false c4
    clear c4
    obtain rfl := Option.some.inj H
    go_wp2
    go_ret
    exact ⟨aq1, aq2⟩
   rw [if_pos c4] at H
   have c4b0 : decide (x8_1 < (wrap64 (Int.tmod (IntKind.u64.wrap (a1)) 64))) = true := decide_eq_true c4
   clear c4
   by_cases c5 : a2 = true
   ·subst c5
    rw [if_pos rfl] at H
    have H' := Aside0.mk H
    clear H
    go_wp2
    go_roundg k1
    case measure => have := HK1.out; omega
    case rel => exact ⟨(wrap64 (x0_1 * 2)), (wrap64 (x8_1 + 1)), aq1, aq1, H', ⟨aq15⟩, aq2⟩
   replace c5 := Bool.eq_false_iff.mpr c5
   subst c5
   rw [if_neg nf_] at H
   by_cases c6 : x0_1 < 0
   rotate_left
   ·rw [if_neg c6] at H
    have c6b0 : decide (x0_1 < 0) = false := decide_eq_false c6
    clear c6
    have H' := Aside0.mk H
    clear H
    go_wp2
    go_roundg k1
    case measure => have := HK1.out; omega
    case rel => exact ⟨(wrap64 (Int.tdiv x0_1 2)), (wrap64 (x8_1 + 1)), aq1, aq1, H', ⟨aq15⟩, aq2⟩
   rw [if_pos c6] at H
   have c6b0 : decide (x0_1 < 0) = true := decide_eq_true c6
   clear c6
   by_cases c7 : (Int.tmod x0_1 2) = 0
   rotate_left
   ·rw [if_neg c7] at H
    have c7b0 : ((Int.tmod x0_1 2) == 0) = false := beq_eq_false_iff_ne.mpr c7
    have c7b1 : ((Int.tmod x0_1 2) != 0) = true := bne_iff_ne.mpr c7
    have H' := Aside0.mk H
    clear H
    go_wp2
    go_roundg k1
    case measure => have := HK1.out; omega
    case rel => exact ⟨(wrap64 ((wrap64 (Int.tdiv x0_1 2)) - 1)), (wrap64 (x8_1 + 1)), aq1, aq1, H', ⟨aq15⟩, aq2⟩
   rw [if_pos c7] at H
   have c7b0 : ((Int.tmod x0_1 2) == 0) = true := beq_iff_eq.mpr c7
   have c7b1 : ((Int.tmod x0_1 2) != 0) = false := bne_eq_false_iff_eq.mpr c7
   clear c7
   have H' := Aside0.mk H
   clear H
   go_wp2
   go_roundg k1
   case measure => have := HK1.out; omega
   case rel => exact ⟨(wrap64 (Int.tdiv x0_1 2)), (wrap64 (x8_1 + 1)), aq1, aq1, H', ⟨aq15⟩, aq2⟩
end Go.Proofs.YtfhjkkcdeigkdaaDoor.PFoldRuns
