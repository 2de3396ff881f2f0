-- Written by print2.py over the kit's printer. Not trusted: Lean checks it.
import Derived.Test.YtdopacgaklaaeaaDoorPDeadRunshqq
import Derived.Test.YtdopacgaklaaeaaDoorPDeadRunsx0
import Derived.Test.YtdopacgaklaaeaaDoorPDeadRunshone11
namespace Go.Proofs.YtdopacgaklaaeaaDoor.PDeadRuns
open Go.RowKit Go.Proofs.YtdopacgaklaaeaaDoorW.PrintWords Go.Proofs.YtdopacgaklaaeaaDoorW.PrintLast Go.Proofs.YtdopacgaklaaeaaDoorW.PrintMore
attribute [local go_sem] max2_int min2_int max_two min_two max_three min_three max_four min_four   -- for this text's walks alone
set_option linter.unusedVariables false
set_option linter.unusedSimpArgs false

/-! ### palingref11_Check: function 8 -/
mutual
def palingref11_Check.j0 : Nat → List (S28) → Int → Int → Bool → Option (Bool)
  | 0, _, _, _, _ => none
  | k + 1, x0, x1, x2, x17 => if x17 = true then (some false) else (palingref11_Check.l0 k x0 x1 x2 0)
def palingref11_Check.l0 : Nat → List (S28) → Int → Int → Int → Option (Bool)
  | 0, _, _, _, _ => none
  | k + 1, x0, x1, x2, x7 => if x7 < (x0.length : Int) then (if 0 ≤ x7 then ((palingref11_one.f k ((rd_T28 x0 x7).f0) ((rd_T28 x0 x7).f1) ((rd_T28 x0 x7).f2) ((rd_T28 x0 x7).f3) ((rd_T28 x0 x7).f4) ((rd_T28 x0 x7).f5) ((rd_T28 x0 x7).f6) (x0.length : Int) x1 x2).bind fun t167 => (if t167 = true then (palingref11_Check.l0 k x0 x1 x2 (wrap64 (x7 + 1))) else (some false))) else (none)) else (if 0 ≤ (wrap64 ((x0.length : Int) - 1)) then (if (wrap64 ((x0.length : Int) - 1)) < (x0.length : Int) then (if ((rd_T28 x0 (wrap64 ((x0.length : Int) - 1))).f0) = 6 then (some true) else (if ((rd_T28 x0 (wrap64 ((x0.length : Int) - 1))).f0) = 12 then (some true) else (some (((rd_T28 x0 (wrap64 ((x0.length : Int) - 1))).f0) == 13)))) else (none)) else (none))
end
def palingref11_Check.f (k : Nat) (l0 : List (S28)) (a1 : Int) (a2 : Int) : Option (Bool) := if (l0.length : Int) < 1 then (palingref11_Check.j0 k l0 a1 a2 true) else (palingref11_Check.j0 k l0 a1 a2 (decide ((l0.length : Int) > 4096)))
theorem palingref11_Check.mono_l : ∀ k, (∀ y0 y1 y2 y3, LeO (palingref11_Check.j0 k y0 y1 y2 y3) (palingref11_Check.j0 (k + 1) y0 y1 y2 y3)) ∧ (∀ y0 y1 y2 y3, LeO (palingref11_Check.l0 k y0 y1 y2 y3) (palingref11_Check.l0 (k + 1) y0 y1 y2 y3))
  | 0 => ⟨fun _ _ _ _ r h => by simp [palingref11_Check.j0] at h, fun _ _ _ _ r h => by simp [palingref11_Check.l0] at h⟩
  | k + 1 => by
    obtain ⟨ih0, ih1⟩ := palingref11_Check.mono_l k
    refine ⟨?_, ?_⟩ <;> intros <;> (first | unfold palingref11_Check.j0 | unfold palingref11_Check.l0) <;> repeat' (first | (with_reducible first | exact ih0 _ _ _ _ | exact ih1 _ _ _ _ | exact palingref11_one.mono _ _ _ _ _ _ _ _ _ _ _ | exact LeO.refl _ | exact LeO.none _ | refine LeO.ite ?_ ?_ | refine LeO.bind ?_ (fun _ => ?_)) | exact ih0 _ _ _ _ | exact ih1 _ _ _ _ | exact palingref11_one.mono _ _ _ _ _ _ _ _ _ _ _ | exact LeO.none _ | refine LeO.ite ?_ ?_ | refine LeO.bind ?_ (fun _ => ?_))
theorem palingref11_Check.mono : ∀ a0 a1 a2 k, LeO (palingref11_Check.f k a0 a1 a2) (palingref11_Check.f (k + 1) a0 a1 a2) := by
 intro a0 a1 a2 k
 obtain ⟨ih0, ih1⟩ := palingref11_Check.mono_l k
 unfold palingref11_Check.f
 repeat' (first | (with_reducible first | exact ih0 _ _ _ _ | exact ih1 _ _ _ _ | exact palingref11_one.mono _ _ _ _ _ _ _ _ _ _ _ | exact LeO.refl _ | exact LeO.none _ | refine LeO.ite ?_ ?_ | refine LeO.bind ?_ (fun _ => ?_)) | exact ih0 _ _ _ _ | exact ih1 _ _ _ _ | exact palingref11_one.mono _ _ _ _ _ _ _ _ _ _ _ | exact LeO.none _ | refine LeO.ite ?_ ?_ | refine LeO.bind ?_ (fun _ => ?_))
set_option maxHeartbeats 8000000 in
set_option maxRecDepth 100000 in
theorem palingref11_Check.calls (k : Nat) (A0 : Option Addr) (c0 : Nat) (l0 : List (S28)) (a1 : Int) (a2 : Int) (r : Bool) (w : World) (hr0 : Kd.C k28 w A0 l0.length l0) (hc0 : l0.length ≤ c0) (h : palingref11_Check.f k l0 a1 a2 = some r) :
    Calls Tryd.prog 8 #[.slice A0 l0.length c0, .int .i64 a1, .int .i64 a2] w fun e w' => e = .returned (.bool r) ∧ Below w.heap.size w w' := by
 have hu28 := Tryd.underlying28
 have HR0 := Aside0.mk hr0
 have HC0 := Aside0.mk hc0
 clear hr0 hc0
 have HB := Aside0.mk (Below.refl w.heap.size w)
 have H : (if (l0.length : Int) < 1 then (palingref11_Check.j0 k l0 a1 a2 true) else (palingref11_Check.j0 k l0 a1 a2 (decide ((l0.length : Int) > 4096)))) = some r := h
 clear h
 have HC4 := Aside0.mk H
 clear H
 go_enter Tryd.func8, Tryd.ntmps8
 go_upto_region 1 with (fail)
 go_cut [17] (fun v17 wc => ∃ (kq : Nat) (x17_3 : Bool), v17 = .bool x17_3 ∧ Aside0 (palingref11_Check.j0 kq l0 a1 a2 x17_3 = some r) ∧ Aside0 (kq ≤ k) ∧ Aside0 (Below w.heap.size w wc))
 case first =>
  have H := HC4.out
  clear HC4
  by_cases c5 : (l0.length : Int) < 1
  ·rw [if_pos c5] at H
   have c5b0 : decide ((l0.length : Int) < 1) = true := decide_eq_true c5
   have c5b1 : decide (l0.length < 1) = true := decide_eq_true (by omega)
   clear c5
   (first | rw [c5b0] | (simp only [i64_w, i32_w]; rw [c5b0]) | skip)
   have H' := Aside0.mk H
   clear H
   go_wp2
   go_meet
   case rel => exact ⟨_, (true), aq2, H', ⟨aq24⟩, ⟨aq0⟩⟩
  rw [if_neg c5] at H
  have c5b0 : decide ((l0.length : Int) < 1) = false := decide_eq_false c5
  have c5b1 : decide (l0.length < 1) = false := decide_eq_false (by omega)
  clear c5
  (first | rw [c5b0] | (simp only [i64_w, i32_w]; rw [c5b0]) | skip)
  have H' := Aside0.mk H
  clear H
  go_wp2
  go_meet
  case rel => exact ⟨_, (decide ((l0.length : Int) > 4096)), aq2, H', ⟨aq24⟩, ⟨aq0⟩⟩
 case rest =>
  clear HC4
  obtain ⟨kq, x17_3, rfl, HA, HJ3, HB⟩ := hcut
  cases kq with
  | zero => exact absurd HA.out (by simp [palingref11_Check.j0])
  | succ kj3 =>
   have H := HA.out
   clear HA
   simp only [palingref11_Check.j0] at H
   by_cases c6 : x17_3 = true
   ·subst c6
    rw [if_pos rfl] at H
    obtain rfl := Option.some.inj H
    go_wp2
    go_ret
    exact ⟨aq7, aq0⟩
   replace c6 := Bool.eq_false_iff.mpr c6
   subst c6
   rw [if_neg nf_] at H
   have H' := Aside0.mk H
   clear H
   go_wp2
   go_loopg [7] kj3 (fun kq v7 w' => ∃ (x7_2 : Int), v7 = .int .i64 x7_2 ∧ Aside0 (palingref11_Check.l0 kq l0 a1 a2 x7_2 = some r) ∧ Aside0 (kq ≤ kj3) ∧ Aside0 (Below w.heap.size w w'))
   case atStart => exact ⟨(0), aq2, H', ⟨Nat.le_refl _⟩, ⟨aq0⟩⟩
   case round =>
    clear H'
    obtain ⟨x7_2, rfl, HA, HK2, HB⟩ := hrel
    cases gk with
    | zero => exact absurd HA.out (by simp [palingref11_Check.l0])
    | succ k2 =>
     have H := HA.out
     clear HA
     simp only [palingref11_Check.l0] at H
     by_cases c7 : x7_2 < (l0.length : Int)
     ·rw [if_pos c7] at H
      have c7b0 : decide (x7_2 < (l0.length : Int)) = true := decide_eq_true c7
      clear c7
      by_cases c8 : 0 ≤ x7_2
      rotate_left
      ·rw [if_neg c8] at H
       exact absurd H (by simp)
      rw [if_pos c8] at H
      have c8b0 : decide (0 ≤ x7_2) = true := decide_eq_true c8
      clear c8
      obtain ⟨t167, A9, H⟩ := bS_ H
      by_cases c10 : t167 = true
      rotate_left
      ·replace c10 := Bool.eq_false_iff.mpr c10
       subst c10
       rw [if_neg nf_] at H
       obtain rfl := Option.some.inj H
       have p166 : 0 ≤ (x7_2 : Int) := of_decide_eq_true aq5
       have q166 : x7_2 < (l0.length : Int) := of_decide_eq_true aq5
       obtain ⟨ad166, e166, hx166_0, hx166_1, hx166_2, hx166_3, hx166_4, hx166_5, hx166_6⟩ := at_T28 HR0.out x7_2 p166 q166
       cases e166
       have n_ := cb7 HB.out hx166_0 hx166_1 hx166_2 hx166_3 hx166_4 hx166_5 hx166_6
       clear hx166_0 hx166_1 hx166_2 hx166_3 hx166_4 hx166_5 hx166_6
       obtain ⟨hx166_0, hx166_1, hx166_2, hx166_3, hx166_4, hx166_5, hx166_6⟩ := n_
       replace p166 := eq_true p166
       replace q166 := eq_true q166
       go_wp2_with (first | ((with_reducible refine gate_callee (f := 22) rfl ?_); refine goesL_ (some 32) rfl rfl Tryd.func22 (by kernel_rfl) rfl #[.agg #[.int .i64 ((rd_T28 l0 x7_2).f0), .int .i64 ((rd_T28 l0 x7_2).f1), .int .i64 ((rd_T28 l0 x7_2).f2), .int .i64 ((rd_T28 l0 x7_2).f3), .int .i64 ((rd_T28 l0 x7_2).f4), .int .i64 ((rd_T28 l0 x7_2).f5), .int .i64 ((rd_T28 l0 x7_2).f6)], .int .i64 (l0.length : Int), .int .i64 a1, .int .i64 a2] rfl aq1 ?_; (with_reducible refine (palingref11_one.calls k2 ((rd_T28 l0 x7_2).f0) ((rd_T28 l0 x7_2).f1) ((rd_T28 l0 x7_2).f2) ((rd_T28 l0 x7_2).f3) ((rd_T28 l0 x7_2).f4) ((rd_T28 l0 x7_2).f5) ((rd_T28 l0 x7_2).f6) (l0.length : Int) a1 a2 false _ A9.out).mono ?_); rintro e w12 ⟨rfl, hb⟩; refine ⟨_, rfl, ?_⟩; replace HB := Aside0.mk (below_step aq0 hb); (try clear hb); (try clear hb2); (try clear hk); (try clear hi)))
       go_ret
       exact ⟨aq7, aq0⟩
      subst c10
      rw [if_pos rfl] at H
      have H' := Aside0.mk H
      clear H
      have p166 : 0 ≤ (x7_2 : Int) := of_decide_eq_true aq5
      have q166 : x7_2 < (l0.length : Int) := of_decide_eq_true aq5
      obtain ⟨ad166, e166, hx166_0, hx166_1, hx166_2, hx166_3, hx166_4, hx166_5, hx166_6⟩ := at_T28 HR0.out x7_2 p166 q166
      cases e166
      have n_ := cb7 HB.out hx166_0 hx166_1 hx166_2 hx166_3 hx166_4 hx166_5 hx166_6
      clear hx166_0 hx166_1 hx166_2 hx166_3 hx166_4 hx166_5 hx166_6
      obtain ⟨hx166_0, hx166_1, hx166_2, hx166_3, hx166_4, hx166_5, hx166_6⟩ := n_
      replace p166 := eq_true p166
      replace q166 := eq_true q166
      go_wp2_with (first | ((with_reducible refine gate_callee (f := 22) rfl ?_); refine goesL_ (some 32) rfl rfl Tryd.func22 (by kernel_rfl) rfl #[.agg #[.int .i64 ((rd_T28 l0 x7_2).f0), .int .i64 ((rd_T28 l0 x7_2).f1), .int .i64 ((rd_T28 l0 x7_2).f2), .int .i64 ((rd_T28 l0 x7_2).f3), .int .i64 ((rd_T28 l0 x7_2).f4), .int .i64 ((rd_T28 l0 x7_2).f5), .int .i64 ((rd_T28 l0 x7_2).f6)], .int .i64 (l0.length : Int), .int .i64 a1, .int .i64 a2] rfl aq1 ?_; (with_reducible refine (palingref11_one.calls k2 ((rd_T28 l0 x7_2).f0) ((rd_T28 l0 x7_2).f1) ((rd_T28 l0 x7_2).f2) ((rd_T28 l0 x7_2).f3) ((rd_T28 l0 x7_2).f4) ((rd_T28 l0 x7_2).f5) ((rd_T28 l0 x7_2).f6) (l0.length : Int) a1 a2 true _ A9.out).mono ?_); rintro e w11 ⟨rfl, hb⟩; refine ⟨_, rfl, ?_⟩; replace HB := Aside0.mk (below_step aq0 hb); (try clear hb); (try clear hb2); (try clear hk); (try clear hi)))
      go_roundg k2
      case measure => have := HJ3.out; have := HK2.out; omega
      case rel => exact ⟨(wrap64 (x7_2 + 1)), aq2, H', ⟨by have := HJ3.out; have := HK2.out; omega⟩, ⟨aq0⟩⟩
     rw [if_neg c7] at H
     have c7b0 : decide (x7_2 < (l0.length : Int)) = false := decide_eq_false c7
     clear c7
     obtain ⟨ji13, hji13⟩ : ∃ j_ : Int, (wrap64 ((l0.length : Int) - 1)) = j_ := ⟨_, rfl⟩
     replace H : (if 0 ≤ (ji13) then (if (ji13) < (l0.length : Int) then (if ((rd_T28 l0 (ji13)).f0) = 6 then (some true) else (if ((rd_T28 l0 (ji13)).f0) = 12 then (some true) else (some (((rd_T28 l0 (ji13)).f0) == 13)))) else (none)) else (none)) = some r := by first | (rw [hji13] at H; exact H) | (simp only [hji13] at H ⊢; exact H)
     have hji13w : (IntKind.i64.wrap ((l0.length : Int) - 1)) = ji13 := (i64_w _).trans hji13
     by_cases c14 : 0 ≤ (ji13)
     rotate_left
     ·rw [if_neg c14] at H
      exact absurd H (by simp)
     rw [if_pos c14] at H
     have c14b0 : decide (0 ≤ (ji13)) = true := decide_eq_true c14
     clear c14
     by_cases c15 : (ji13) < (l0.length : Int)
     rotate_left
     ·rw [if_neg c15] at H
      exact absurd H (by simp)
     rw [if_pos c15] at H
     have c15b0 : decide ((ji13) < (l0.length : Int)) = true := decide_eq_true c15
     clear c15
     by_cases c16 : ((rd_T28 l0 (ji13)).f0) = 6
     ·rw [if_pos c16] at H
      have c16b0 : (((rd_T28 l0 (ji13)).f0) == 6) = true := beq_iff_eq.mpr c16
      have c16b1 : (((rd_T28 l0 (ji13)).f0) != 6) = false := bne_eq_false_iff_eq.mpr c16
      clear c16
      obtain rfl := Option.some.inj H
      have p168 : 0 ≤ ((ji13) : Int) := of_decide_eq_true aq5
      have q168 : (ji13) < (l0.length : Int) := of_decide_eq_true aq5
      obtain ⟨ad168, e168, hx168_0, hx168_1, hx168_2, hx168_3, hx168_4, hx168_5, hx168_6⟩ := at_T28 HR0.out (ji13) p168 q168
      cases e168
      have n_ := cb7 HB.out hx168_0 hx168_1 hx168_2 hx168_3 hx168_4 hx168_5 hx168_6
      clear hx168_0 hx168_1 hx168_2 hx168_3 hx168_4 hx168_5 hx168_6
      obtain ⟨hx168_0, hx168_1, hx168_2, hx168_3, hx168_4, hx168_5, hx168_6⟩ := n_
      replace p168 := eq_true p168
      replace q168 := eq_true q168
      go_wp2
      go_ret
      exact ⟨aq18, aq0⟩
     rw [if_neg c16] at H
     have c16b0 : (((rd_T28 l0 (ji13)).f0) == 6) = false := beq_eq_false_iff_ne.mpr c16
     have c16b1 : (((rd_T28 l0 (ji13)).f0) != 6) = true := bne_iff_ne.mpr c16
     by_cases c17 : ((rd_T28 l0 (ji13)).f0) = 12
     rotate_left
     ·rw [if_neg c17] at H
      have c17b0 : (((rd_T28 l0 (ji13)).f0) == 12) = false := beq_eq_false_iff_ne.mpr c17
      have c17b1 : (((rd_T28 l0 (ji13)).f0) != 12) = true := bne_iff_ne.mpr c17
      obtain rfl := Option.some.inj H
      have p168 : 0 ≤ ((ji13) : Int) := of_decide_eq_true aq5
      have q168 : (ji13) < (l0.length : Int) := of_decide_eq_true aq5
      obtain ⟨ad168, e168, hx168_0, hx168_1, hx168_2, hx168_3, hx168_4, hx168_5, hx168_6⟩ := at_T28 HR0.out (ji13) p168 q168
      cases e168
      have n_ := cb7 HB.out hx168_0 hx168_1 hx168_2 hx168_3 hx168_4 hx168_5 hx168_6
      clear hx168_0 hx168_1 hx168_2 hx168_3 hx168_4 hx168_5 hx168_6
      obtain ⟨hx168_0, hx168_1, hx168_2, hx168_3, hx168_4, hx168_5, hx168_6⟩ := n_
      replace p168 := eq_true p168
      replace q168 := eq_true q168
      go_wp2
      go_ret
      exact ⟨aq18, aq0⟩
     rw [if_pos c17] at H
     have c17b0 : (((rd_T28 l0 (ji13)).f0) == 12) = true := beq_iff_eq.mpr c17
     have c17b1 : (((rd_T28 l0 (ji13)).f0) != 12) = false := bne_eq_false_iff_eq.mpr c17
     clear c17
     obtain rfl := Option.some.inj H
     have p168 : 0 ≤ ((ji13) : Int) := of_decide_eq_true aq5
     have q168 : (ji13) < (l0.length : Int) := of_decide_eq_true aq5
     obtain ⟨ad168, e168, hx168_0, hx168_1, hx168_2, hx168_3, hx168_4, hx168_5, hx168_6⟩ := at_T28 HR0.out (ji13) p168 q168
     cases e168
     have n_ := cb7 HB.out hx168_0 hx168_1 hx168_2 hx168_3 hx168_4 hx168_5 hx168_6
     clear hx168_0 hx168_1 hx168_2 hx168_3 hx168_4 hx168_5 hx168_6
     obtain ⟨hx168_0, hx168_1, hx168_2, hx168_3, hx168_4, hx168_5, hx168_6⟩ := n_
     replace p168 := eq_true p168
     replace q168 := eq_true q168
     go_wp2
     go_ret
     exact ⟨aq18, aq0⟩
-- NOT PRINTED: function 19 (palingref12_New)

/-! ### palingref12_Get: function 39 -/
def palingref12_Get.l0 : Nat → List (S90) → Int → Int → Option (Int)
  | 0, _, _, _ => none
  | k + 1, x0, x1, x5 => if x5 < (x0.length : Int) then (if 0 ≤ x5 then (if ((rd_T90 x0 x5).f0) = x1 then (some ((rd_T90 x0 x5).f1)) else (palingref12_Get.l0 k x0 x1 (wrap64 (x5 + 1)))) else (none)) else (some 0)
def palingref12_Get.f (k : Nat) (l0 : List (S90)) (a1 : Int) : Option (Int) := palingref12_Get.l0 k l0 a1 0
theorem palingref12_Get.mono_l : ∀ k, (∀ y0 y1 y2, LeO (palingref12_Get.l0 k y0 y1 y2) (palingref12_Get.l0 (k + 1) y0 y1 y2))
  | 0 => fun _ _ _ r h => by simp [palingref12_Get.l0] at h
  | k + 1 => by
    have ih0 := palingref12_Get.mono_l k
    intros <;> unfold palingref12_Get.l0 <;> repeat' (first | (with_reducible first | exact ih0 _ _ _ | exact LeO.refl _ | exact LeO.none _ | refine LeO.ite ?_ ?_ | refine LeO.bind ?_ (fun _ => ?_)) | exact ih0 _ _ _ | exact LeO.none _ | refine LeO.ite ?_ ?_ | refine LeO.bind ?_ (fun _ => ?_))
theorem palingref12_Get.mono : ∀ a0 a1 k, LeO (palingref12_Get.f k a0 a1) (palingref12_Get.f (k + 1) a0 a1) := by
 intro a0 a1 k
 have ih0 := palingref12_Get.mono_l k
 unfold palingref12_Get.f
 repeat' (first | (with_reducible first | exact ih0 _ _ _ | exact LeO.refl _ | exact LeO.none _ | refine LeO.ite ?_ ?_ | refine LeO.bind ?_ (fun _ => ?_)) | exact ih0 _ _ _ | exact LeO.none _ | refine LeO.ite ?_ ?_ | refine LeO.bind ?_ (fun _ => ?_))
set_option maxHeartbeats 8000000 in
set_option maxRecDepth 100000 in
theorem palingref12_Get.calls (k : Nat) (A0 : Option Addr) (c0 : Nat) (l0 : List (S90)) (a1 : Int) (r : Int) (w : World) (hr0 : Kd.C k90 w A0 l0.length l0) (hc0 : l0.length ≤ c0) (h : palingref12_Get.f k l0 a1 = some r) :
    Calls Tryd.prog 39 #[.slice A0 l0.length c0, .int .i64 a1] w fun e w' => e = .returned (.int .i64 r) ∧ Drawn0 w w' := by
 have HR0 := Aside0.mk hr0
 have HC0 := Aside0.mk hc0
 clear hr0 hc0
 have H : (palingref12_Get.l0 k l0 a1 0) = some r := h
 clear h
 have H' := Aside0.mk H
 clear H
 go_enter Tryd.func39, Tryd.ntmps39
 go_wp2
 go_loopg [5] k (fun kq v5 w' => ∃ (x5_1 : Int), v5 = .int .i64 x5_1 ∧ Aside0 (palingref12_Get.l0 kq l0 a1 x5_1 = some r) ∧ Aside0 (kq ≤ k) ∧ Drawn0 w w')
 case atStart => exact ⟨(0), aq2, H', ⟨Nat.le_refl _⟩, aq3⟩
 case round =>
  clear H'
  obtain ⟨x5_1, rfl, HA, HK1, ⟨m1, rfl⟩⟩ := hrel
  cases gk with
  | zero => exact absurd HA.out (by simp [palingref12_Get.l0])
  | succ k1 =>
   have H := HA.out
   clear HA
   simp only [palingref12_Get.l0] at H
   by_cases c3 : x5_1 < (l0.length : Int)
   rotate_left
   ·rw [if_neg c3] at H
    have c3b0 : decide (x5_1 < (l0.length : Int)) = false := decide_eq_false c3
    clear c3
    obtain rfl := Option.some.inj H
    go_wp2
    go_ret
    exact ⟨aq2, aq3⟩
   rw [if_pos c3] at H
   have c3b0 : decide (x5_1 < (l0.length : Int)) = true := decide_eq_true c3
   clear c3
   by_cases c4 : 0 ≤ x5_1
   rotate_left
   ·rw [if_neg c4] at H
    exact absurd H (by simp)
   rw [if_pos c4] at H
   have c4b0 : decide (0 ≤ x5_1) = true := decide_eq_true c4
   clear c4
   by_cases c5 : ((rd_T90 l0 x5_1).f0) = a1
   rotate_left
   ·rw [if_neg c5] at H
    have c5b0 : (((rd_T90 l0 x5_1).f0) == a1) = false := beq_eq_false_iff_ne.mpr c5
    have c5b1 : (((rd_T90 l0 x5_1).f0) != a1) = true := bne_iff_ne.mpr c5
    have H' := Aside0.mk H
    clear H
    have p176 : 0 ≤ (x5_1 : Int) := of_decide_eq_true aq5
    have q176 : x5_1 < (l0.length : Int) := of_decide_eq_true aq5
    obtain ⟨ad176, e176, hx176_0, hx176_1⟩ := at_T90 HR0.out x5_1 p176 q176
    cases e176
    replace p176 := eq_true p176
    replace q176 := eq_true q176
    go_wp2
    go_roundg k1
    case measure => have := HK1.out; omega
    case rel => exact ⟨(wrap64 (x5_1 + 1)), aq2, H', ⟨aq21⟩, aq3⟩
   rw [if_pos c5] at H
   have c5b0 : (((rd_T90 l0 x5_1).f0) == a1) = true := beq_iff_eq.mpr c5
   have c5b1 : (((rd_T90 l0 x5_1).f0) != a1) = false := bne_eq_false_iff_eq.mpr c5
   clear c5
   obtain rfl := Option.some.inj H
   have p176 : 0 ≤ (x5_1 : Int) := of_decide_eq_true aq5
   have q176 : x5_1 < (l0.length : Int) := of_decide_eq_true aq5
   obtain ⟨ad176, e176, hx176_0, hx176_1⟩ := at_T90 HR0.out x5_1 p176 q176
   cases e176
   replace p176 := eq_true p176
   replace q176 := eq_true q176
   have p177 : 0 ≤ (x5_1 : Int) := of_decide_eq_true aq5
   have q177 : x5_1 < (l0.length : Int) := of_decide_eq_true aq5
   obtain ⟨ad177, e177, hx177_0, hx177_1⟩ := at_T90 HR0.out x5_1 p177 q177
   obtain rfl : ad176 = ad177 := (by injection e177)
   replace p177 := eq_true p177
   replace q177 := eq_true q177
   go_wp2
   go_ret
   exact ⟨aq2, aq3⟩
-- NOT PRINTED: function 61 (palingref12_R_Owner)

-- NOT PRINTED: function 40 (palingref12_R_lock)

end Go.Proofs.YtdopacgaklaaeaaDoor.PDeadRuns
