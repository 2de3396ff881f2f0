-- Written by print2.py over the kit's printer. Not trusted: Lean checks it.
import Derived.Test.YtdopacgaklaaeaaDoorPDeadOncehqq
import Derived.Test.YtdopacgaklaaeaaDoorPDeadOncex0
import Derived.Test.YtdopacgaklaaeaaDoorPDeadOncex1
import Derived.Test.YtdopacgaklaaeaaDoorPDeadOncehgreach
import Derived.Test.YtdopacgaklaaeaaDoorPDeadOncehinsdef
import Derived.Test.YtdopacgaklaaeaaDoorPDeadOncehlro
namespace Go.Proofs.YtdopacgaklaaeaaDoor.PDeadOnce
open Go.RowKit Go.Proofs.YtdopacgaklaaeaaDoorW.PrintWords Go.Proofs.YtdopacgaklaaeaaDoorW.PrintLast Go.Proofs.YtdopacgaklaaeaaDoorW.PrintMore
attribute [local go_sem] max2_int min2_int max_two min_two max_three min_three max_four min_four   -- for this text's walks alone
set_option linter.unusedVariables false
set_option linter.unusedSimpArgs false

attribute [local go_sem high] eqA28
/-! ### slices_Index_int_int: function 53 -/
def slices_Index_int_int.l0 : Nat → List Int → Int → Int → Int → Option (Int)
  | 0, _, _, _, _ => none
  | k + 1, x0, x1, x7, x8 => if x8 < x7 then (if 0 ≤ x8 then (if x8 < (x0.length : Int) then (if x1 = (rd x0 x8) then (some x8) else (slices_Index_int_int.l0 k x0 x1 x7 (wrap64 (x8 + 1)))) else (none)) else (none)) else (some (-1))
def slices_Index_int_int.f (k : Nat) (l0 : List Int) (a1 : Int) : Option (Int) := slices_Index_int_int.l0 k l0 a1 (l0.length : Int) 0
theorem slices_Index_int_int.mono_l : ∀ k, (∀ y0 y1 y2 y3, LeO (slices_Index_int_int.l0 k y0 y1 y2 y3) (slices_Index_int_int.l0 (k + 1) y0 y1 y2 y3))
  | 0 => fun _ _ _ _ r h => by simp [slices_Index_int_int.l0] at h
  | k + 1 => by
    have ih0 := slices_Index_int_int.mono_l k
    intros <;> unfold slices_Index_int_int.l0 <;> repeat' (first | (with_reducible first | exact ih0 _ _ _ _ | exact LeO.refl _ | exact LeO.none _ | refine LeO.ite ?_ ?_ | refine LeO.bind ?_ (fun _ => ?_)) | exact ih0 _ _ _ _ | exact LeO.none _ | refine LeO.ite ?_ ?_ | refine LeO.bind ?_ (fun _ => ?_))
theorem slices_Index_int_int.mono : ∀ a0 a1 k, LeO (slices_Index_int_int.f k a0 a1) (slices_Index_int_int.f (k + 1) a0 a1) := by
 intro a0 a1 k
 have ih0 := slices_Index_int_int.mono_l k
 unfold slices_Index_int_int.f
 repeat' (first | (with_reducible first | exact ih0 _ _ _ _ | exact LeO.refl _ | exact LeO.none _ | refine LeO.ite ?_ ?_ | refine LeO.bind ?_ (fun _ => ?_)) | exact ih0 _ _ _ _ | exact LeO.none _ | refine LeO.ite ?_ ?_ | refine LeO.bind ?_ (fun _ => ?_))
set_option maxHeartbeats 8000000 in
set_option maxRecDepth 100000 in
theorem slices_Index_int_int.calls (k : Nat) (A0 : Option Addr) (c0 : Nat) (l0 : List Int) (a1 : Int) (r : Int) (w : World) (hr0 : Kd.C (Kd.int .i64) w A0 l0.length l0) (hc0 : l0.length ≤ c0) (h : slices_Index_int_int.f k l0 a1 = some r) :
    Calls Tryd.prog 53 #[.slice A0 l0.length c0, .int .i64 a1] w fun e w' => e = .returned (.int .i64 r) ∧ Drawn0 w w' := by
 have HR0 := Aside0.mk hr0
 have HC0 := Aside0.mk hc0
 clear hr0 hc0
 have H : (slices_Index_int_int.l0 k l0 a1 (l0.length : Int) 0) = some r := h
 clear h
 have H' := Aside0.mk H
 clear H
 go_enter Tryd.func53, Tryd.ntmps53
 go_wp2
 go_loopg [8] k (fun kq v8 w' => ∃ (x8_1 : Int), v8 = .int .i64 x8_1 ∧ Aside0 (slices_Index_int_int.l0 kq l0 a1 (l0.length : Int) x8_1 = some r) ∧ Aside0 (kq ≤ k) ∧ Drawn0 w w')
 case atStart => exact ⟨(0), aq9, H', ⟨Nat.le_refl _⟩, aq15⟩
 case round =>
  clear H'
  obtain ⟨x8_1, rfl, HA, HK1, ⟨m1, rfl⟩⟩ := hrel
  cases gk with
  | zero => exact absurd HA.out (by simp [slices_Index_int_int.l0])
  | succ k1 =>
   have H := HA.out
   clear HA
   simp only [slices_Index_int_int.l0] at H
   by_cases c3 : x8_1 < (l0.length : Int)
   rotate_left
   ·rw [if_neg c3] at H
    have c3b0 : decide (x8_1 < (l0.length : Int)) = false := decide_eq_false c3
    clear c3
    obtain rfl := Option.some.inj H
    go_wp2
    go_ret
    exact ⟨aq9, aq15⟩
   rw [if_pos c3] at H
   have c3b0 : decide (x8_1 < (l0.length : Int)) = true := decide_eq_true c3
   clear c3
   by_cases c4 : 0 ≤ x8_1
   rotate_left
   ·rw [if_neg c4] at H
    exact absurd H (by simp)
   rw [if_pos c4] at H
   have c4b0 : decide (0 ≤ x8_1) = true := decide_eq_true c4
   clear c4
   by_cases c5 : x8_1 < (l0.length : Int)
   rotate_left
   ·rw [if_neg c5] at H
    exact absurd H (by simp)
   rw [if_pos c5] at H
   have c5b0 : decide (x8_1 < (l0.length : Int)) = true := decide_eq_true c5
   clear c5
   by_cases c6 : a1 = (rd l0 x8_1)
   ·rw [if_pos c6] at H
    have c6b0 : (a1 == (rd l0 x8_1)) = true := beq_iff_eq.mpr c6
    have c6b1 : (a1 != (rd l0 x8_1)) = false := bne_eq_false_iff_eq.mpr c6
    clear c6
    obtain rfl := Option.some.inj H
    have p103 : 0 ≤ (x8_1 : Int) := of_decide_eq_true aq3
    have q103 : x8_1 < (l0.length : Int) := of_decide_eq_true aq3
    obtain ⟨ad103, e103, hx103_0⟩ := Kd.at_int HR0.out x8_1 p103 q103
    cases e103
    replace p103 := eq_true p103
    replace q103 := eq_true q103
    go_wp2
    go_ret
    exact ⟨aq9, aq15⟩
   rw [if_neg c6] at H
   have c6b0 : (a1 == (rd l0 x8_1)) = false := beq_eq_false_iff_ne.mpr c6
   have c6b1 : (a1 != (rd l0 x8_1)) = true := bne_iff_ne.mpr c6
   have H' := Aside0.mk H
   clear H
   have p103 : 0 ≤ (x8_1 : Int) := of_decide_eq_true aq3
   have q103 : x8_1 < (l0.length : Int) := of_decide_eq_true aq3
   obtain ⟨ad103, e103, hx103_0⟩ := Kd.at_int HR0.out x8_1 p103 q103
   cases e103
   replace p103 := eq_true p103
   replace q103 := eq_true q103
   go_wp2
   go_roundg k1
   case measure => have := HK1.out; omega
   case rel => exact ⟨(wrap64 (x8_1 + 1)), aq9, H', ⟨aq40⟩, aq15⟩
/-! ### slices_Contains_int_int: function 26 -/
def slices_Contains_int_int.f (k : Nat) (l0 : List Int) (a1 : Int) : Option (Bool) := (slices_Index_int_int.f k l0 a1).bind fun t104 => (some (decide (t104 ≥ 0)))
theorem slices_Contains_int_int.mono : ∀ a0 a1 k, LeO (slices_Contains_int_int.f k a0 a1) (slices_Contains_int_int.f (k + 1) a0 a1) := by
 intro a0 a1 k
 unfold slices_Contains_int_int.f
 repeat' (first | (with_reducible first | exact slices_Index_int_int.mono _ _ _ | exact LeO.refl _ | exact LeO.none _ | refine LeO.ite ?_ ?_ | refine LeO.bind ?_ (fun _ => ?_)) | exact slices_Index_int_int.mono _ _ _ | exact LeO.none _ | refine LeO.ite ?_ ?_ | refine LeO.bind ?_ (fun _ => ?_))
set_option maxHeartbeats 8000000 in
set_option maxRecDepth 100000 in
theorem slices_Contains_int_int.calls (k : Nat) (A0 : Option Addr) (c0 : Nat) (l0 : List Int) (a1 : Int) (r : Bool) (w : World) (hr0 : Kd.C (Kd.int .i64) w A0 l0.length l0) (hc0 : l0.length ≤ c0) (h : slices_Contains_int_int.f k l0 a1 = some r) :
    Calls Tryd.prog 26 #[.slice A0 l0.length c0, .int .i64 a1] w fun e w' => e = .returned (.bool r) ∧ Drawn0 w w' := by
 have HR0 := Aside0.mk hr0
 have HC0 := Aside0.mk hc0
 clear hr0 hc0
 have H : ((slices_Index_int_int.f k l0 a1).bind fun t104 => (some (decide (t104 ≥ 0)))) = some r := h
 clear h
 obtain ⟨t104, A3, H⟩ := bS_ H
 obtain rfl := Option.some.inj H
 go_enter Tryd.func26, Tryd.ntmps26
 go_wp2_with (first | ((with_reducible refine gate_callee (f := 53) rfl ?_); refine goesL_ (some 7) rfl rfl Tryd.func53 (by kernel_rfl) rfl #[.slice A0 l0.length c0, .int .i64 a1] rfl aq5 ?_; (with_reducible refine (slices_Index_int_int.calls k _ _ l0 a1 t104 _ ?side1 ?side2 A3.out).mono ?_); (case side1 => repeat (first | exact HR0.out | (with_reducible refine Kd.C_alloc ?_ _) | (with_reducible refine Kd.C_drewN ?_ _) | (with_reducible refine Kd.C_drew ?_))); (case side2 => exact HC0.out); rintro e w' ⟨rfl, ⟨nd, rfl⟩⟩; refine ⟨_, rfl, ?_⟩))
 go_ret
 exact ⟨aq9, aq15⟩
/-! ### dead_Needless: function 10 -/
def dead_Needless.l0 : Nat → List Bool → List Bool → List (List Int) → List (S28) → Int → Int → Option (List Bool)
  | 0, _, _, _, _, _, _ => none
  | k + 1, x3, x4, x5, x16, x17, x18 => if x18 < x17 then (if 0 ≤ x18 then (if x18 < (x16.length : Int) then ((ins_Def.f ((rd_T28 x16 x18).f0) ((rd_T28 x16 x18).f1) ((rd_T28 x16 x18).f2) ((rd_T28 x16 x18).f3) ((rd_T28 x16 x18).f4) ((rd_T28 x16 x18).f5) ((rd_T28 x16 x18).f6)).bind fun t116 => (if x18 < (x4.length : Int) then (if rdOf false x4 x18 = true then (if t116 ≥ 0 then (if x18 < (x5.length : Int) then ((slices_Contains_int_int.f k (rd_L5 x5 x18) t116).bind fun t119 => (if t119 = true then (if ((rd_T28 x16 x18).f0) = 1 then (if x18 < (x3.length : Int) then (dead_Needless.l0 k (x3.set (x18 : Int).toNat (((rd_T28 x16 x18).f3) == t116)) x4 x5 x16 x17 (wrap64 (x18 + 1))) else (none)) else (if x18 < (x3.length : Int) then (dead_Needless.l0 k (x3.set (x18 : Int).toNat false) x4 x5 x16 x17 (wrap64 (x18 + 1))) else (none))) else (if x18 < (x3.length : Int) then (dead_Needless.l0 k (x3.set (x18 : Int).toNat true) x4 x5 x16 x17 (wrap64 (x18 + 1))) else (none)))) else (none)) else (if ((rd_T28 x16 x18).f0) = 6 then (if x18 < (x3.length : Int) then (dead_Needless.l0 k (x3.set (x18 : Int).toNat (((rd_T28 x16 x18).f6) == (wrap64 (x18 + 1)))) x4 x5 x16 x17 (wrap64 (x18 + 1))) else (none)) else (dead_Needless.l0 k x3 x4 x5 x16 x17 (wrap64 (x18 + 1))))) else (if x18 < (x3.length : Int) then (dead_Needless.l0 k (x3.set (x18 : Int).toNat true) x4 x5 x16 x17 (wrap64 (x18 + 1))) else (none))) else (none))) else (none)) else (none)) else (some x3)
def dead_Needless.f (k : Nat) (l0 : List (S28)) : Option (List Bool) := if 0 ≤ (l0.length : Int) then (if ((l0.length : Int) : Int).toNat ≤ 281474976710656 then ((graph_Reach.f k l0).bind fun t108 => ((live_Behind.f k l0).bind fun t111 => (dead_Needless.l0 k (List.replicate ((l0.length : Int) : Int).toNat false) t108 t111 l0 (l0.length : Int) 0))) else (none)) else (none)
theorem dead_Needless.mono_l : ∀ k, (∀ y0 y1 y2 y3 y4 y5, LeO (dead_Needless.l0 k y0 y1 y2 y3 y4 y5) (dead_Needless.l0 (k + 1) y0 y1 y2 y3 y4 y5))
  | 0 => fun _ _ _ _ _ _ r h => by simp [dead_Needless.l0] at h
  | k + 1 => by
    have ih0 := dead_Needless.mono_l k
    intros <;> unfold dead_Needless.l0 <;> repeat' (first | (with_reducible first | exact ih0 _ _ _ _ _ _ | exact graph_Reach.mono _ _ | exact live_Behind.mono _ _ | exact slices_Contains_int_int.mono _ _ _ | exact LeO.refl _ | exact LeO.none _ | refine LeO.ite ?_ ?_ | refine LeO.bind ?_ (fun _ => ?_)) | exact ih0 _ _ _ _ _ _ | exact graph_Reach.mono _ _ | exact live_Behind.mono _ _ | exact slices_Contains_int_int.mono _ _ _ | exact LeO.none _ | refine LeO.ite ?_ ?_ | refine LeO.bind ?_ (fun _ => ?_))
theorem dead_Needless.mono : ∀ a0 k, LeO (dead_Needless.f k a0) (dead_Needless.f (k + 1) a0) := by
 intro a0 k
 have ih0 := dead_Needless.mono_l k
 unfold dead_Needless.f
 repeat' (first | (with_reducible first | exact ih0 _ _ _ _ _ _ | exact graph_Reach.mono _ _ | exact live_Behind.mono _ _ | exact slices_Contains_int_int.mono _ _ _ | exact LeO.refl _ | exact LeO.none _ | refine LeO.ite ?_ ?_ | refine LeO.bind ?_ (fun _ => ?_)) | exact ih0 _ _ _ _ _ _ | exact graph_Reach.mono _ _ | exact live_Behind.mono _ _ | exact slices_Contains_int_int.mono _ _ _ | exact LeO.none _ | refine LeO.ite ?_ ?_ | refine LeO.bind ?_ (fun _ => ?_))
set_option maxHeartbeats 8000000 in
set_option maxRecDepth 100000 in
theorem dead_Needless.calls (k : Nat) (A0 : Option Addr) (c0 : Nat) (l0 : List (S28)) (r : List Bool) (w : World) (hr0 : Kd.C k28 w A0 l0.length l0) (hc0 : l0.length ≤ c0) (h : dead_Needless.f k l0 = some r) (hgl : GlobOK w) :
    Calls Tryd.prog 10 #[.slice A0 l0.length c0] w fun e w' => ∃ v0_ : Value, e = .returned (v0_) ∧ Kd.R Kd.bool 4 w' w.heap.size (fun _ => True) v0_ r ∧ Below w.heap.size w w' := by
 have hu28 := Tryd.underlying28
 have HR0 := Aside0.mk hr0
 have HC0 := Aside0.mk hc0
 clear hr0 hc0
 have HB := Aside0.mk (Below.refl w.heap.size w)
 have HGL := Aside0.mk hgl
 clear hgl
 have H : (if 0 ≤ (l0.length : Int) then (if ((l0.length : Int) : Int).toNat ≤ 281474976710656 then ((graph_Reach.f k l0).bind fun t108 => ((live_Behind.f k l0).bind fun t111 => (dead_Needless.l0 k (List.replicate ((l0.length : Int) : Int).toNat false) t108 t111 l0 (l0.length : Int) 0))) else (none)) else (none)) = some r := h
 clear h
 by_cases c2 : 0 ≤ (l0.length : Int)
 rotate_left
 ·rw [if_neg c2] at H
  exact absurd H (by simp)
 rw [if_pos c2] at H
 have c2b0 := eq_true c2
 have c2b1 : decide (0 ≤ (l0.length : Int)) = true := decide_eq_true c2
 clear c2
 by_cases c3 : ((l0.length : Int) : Int).toNat ≤ 281474976710656
 rotate_left
 ·rw [if_neg c3] at H
  exact absurd H (by simp)
 rw [if_pos c3] at H
 have c3b0 := eq_true c3
 have c3b1 : decide (((l0.length : Int) : Int).toNat ≤ 281474976710656) = true := decide_eq_true c3
 clear c3
 obtain ⟨y105, hy_⟩ : ∃ y_ : List Bool, y_ = (List.replicate ((l0.length : Int) : Int).toNat false) := ⟨_, rfl⟩
 replace H : ((graph_Reach.f k l0).bind fun t108 => ((live_Behind.f k l0).bind fun t111 => (dead_Needless.l0 k y105 t108 t111 l0 (l0.length : Int) 0))) = some r := aq4
 have Ny105 := Aside0.mk hy_
 clear hy_
 obtain ⟨t108, A4, H⟩ := bS_ H
 obtain ⟨t111, A5, H⟩ := bS_ H
 have H' := Aside0.mk H
 clear H
 go_enter Tryd.func10, Tryd.ntmps10
 go_wp2_with (first | ((with_reducible refine gate_dst (N := 11) rfl ?_); refine Kd.R_make Kd.bool _ 4 rfl (N := 11) rfl 26 _ _ rfl (l0.length : Int) rfl rfl Tryd.underlying26 (.bool false) 1 info4 rfl (by decide) (by omega) false (ok := fun _ => True) (okp := fun _ => True) rfl (fun _ hk => hk) trivial (of_decide_eq_true aq3) (Nat.le_trans (Nat.mul_le_mul_right _ (of_decide_eq_true aq3 : (l0.length : Int).toNat ≤ 281474976710656)) (by omega)) (Below.refl _ _) (Nat.le_refl _) ?_; intro v106 w6 ho7 hb hg_ hnew_; clear hg_ hnew_; (first | rw [← Ny105.out] at ho7 | (simp only [Int.reduceToNat] at ho7; rw [← Ny105.out] at ho7)); have HO107 := Aside0.mk (Kd.R_lower ho7 (below_size aq0)); replace HB := Aside0.mk (below_step aq0 hb); clear hb ho7) | ((with_reducible refine gate_callee (f := 23) rfl ?_); refine goesL_ (some 13) rfl rfl Tryd.func23 (by kernel_rfl) rfl #[.slice A0 l0.length c0] rfl aq5 ?_; (with_reducible refine (graph_Reach.calls k _ _ l0 t108 _ ?side1 ?side2 A4.out (GlobOK.step HGL.out aq0)).mono ?_); (case side1 => repeat (first | exact (Kd.C_below HR0.out HB.out) | (with_reducible refine Kd.C_alloc ?_ _) | (with_reducible refine Kd.C_drewN ?_ _) | (with_reducible refine Kd.C_drew ?_))); (case side2 => exact HC0.out); rintro e w8 ⟨v109, rfl, ho0, hb⟩; refine ⟨_, rfl, ?_⟩; have HO110 := Aside0.mk (Kd.R_lower (Kd.R_new' ho0 (Kd.R_lt aq47)) (below_size aq0)); replace HO107 := Aside0.mk (Kd.R_elder' aq47 (Kd.R_base ho0) hb); replace HB := Aside0.mk (below_step aq0 hb); (try clear hb); (try clear hb2); (try clear hk); (try clear hi); (try clear ho0)) | ((with_reducible refine gate_callee (f := 24) rfl ?_); refine goesL_ (some 15) rfl rfl Tryd.func24 (by kernel_rfl) rfl #[.slice A0 l0.length c0] rfl aq5 ?_; (with_reducible refine (live_Behind.calls k _ _ l0 t111 _ ?side1 ?side2 A5.out (GlobOK.step HGL.out aq0)).mono ?_); (case side1 => repeat (first | exact (Kd.C_below HR0.out HB.out) | (with_reducible refine Kd.C_alloc ?_ _) | (with_reducible refine Kd.C_drewN ?_ _) | (with_reducible refine Kd.C_drew ?_))); (case side2 => exact HC0.out); rintro e w9 ⟨v112, rfl, ho0, hb⟩; refine ⟨_, rfl, ?_⟩; replace HO107 := Aside0.mk (Kd.R_below aq47 hb); replace HO110 := Aside0.mk (Kd.R_below (by (with_reducible repeat (first | apply Kd.R_alloc | apply Kd.R_drewN | apply Kd.R_drew)); exact HO110.out) hb); have HO113 := Aside0.mk (Kd.S_lower ho0 (below_size aq0)); replace HB := Aside0.mk (below_step aq0 hb); (try clear hb); (try clear hb2); (try clear hk); (try clear hi); (try clear ho0)))
 go_loopg [18] k (fun kq v18 w' => ∃ (x3_1 : List Bool) (x18_1 : Int), v18 = .int .i64 x18_1 ∧ Aside0 (dead_Needless.l0 kq x3_1 t108 t111 l0 (l0.length : Int) x18_1 = some r) ∧ Aside0 (kq ≤ k) ∧ Aside0 (Kd.R Kd.bool 4 w' w.heap.size (fun k_ => some k_ ≠ (v109 : Value).ownBlock) v106 x3_1) ∧ Aside0 (Kd.R Kd.bool 4 w' w.heap.size (fun k_ => some k_ ≠ (v106 : Value).ownBlock) v109 t108) ∧ Aside0 (Kd.S (Kd.slice 3 (Kd.int .i64)) 57 w' w.heap.size (fun _ => True) v112 t111) ∧ Aside0 (Below w.heap.size w w'))
 case atStart => exact ⟨(y105), (0), aq9, H', ⟨Nat.le_refl _⟩, ⟨by (with_reducible repeat (first | apply Kd.R_alloc | apply Kd.R_drewN | apply Kd.R_drew)); exact Kd.R_mono HO107.out (fun _ hk => hk.2)⟩, ⟨by (with_reducible repeat (first | apply Kd.R_alloc | apply Kd.R_drewN | apply Kd.R_drew)); exact Kd.R_mono HO110.out (fun _ hk => hk.2)⟩, ⟨by (with_reducible repeat (first | apply Kd.S_alloc | apply Kd.S_drewN | apply Kd.S_drew)); exact HO113.out⟩, ⟨aq0⟩⟩
 case round =>
  clear H'
  obtain ⟨x3_1, x18_1, rfl, HA, HK1, HO_3, HO_4, HO_5, HB⟩ := hrel
  cases gk with
  | zero => exact absurd HA.out (by simp [dead_Needless.l0])
  | succ k1 =>
   have H := HA.out
   clear HA
   simp only [dead_Needless.l0] at H
   by_cases c10 : x18_1 < (l0.length : Int)
   rotate_left
   ·rw [if_neg c10] at H
    have c10b0 : decide (x18_1 < (l0.length : Int)) = false := decide_eq_false c10
    clear c10
    obtain rfl := Option.some.inj H
    go_wp2
    go_ret
    exact ⟨_, aq11, by (with_reducible repeat (first | apply Kd.R_alloc | apply Kd.R_drewN | apply Kd.R_drew)); exact Kd.R_mono HO_3.out (fun _ hk => trivial), aq0⟩
   rw [if_pos c10] at H
   have c10b0 : decide (x18_1 < (l0.length : Int)) = true := decide_eq_true c10
   clear c10
   by_cases c11 : 0 ≤ x18_1
   rotate_left
   ·rw [if_neg c11] at H
    exact absurd H (by simp)
   rw [if_pos c11] at H
   have c11b0 : decide (0 ≤ x18_1) = true := decide_eq_true c11
   clear c11
   by_cases c12 : x18_1 < (l0.length : Int)
   rotate_left
   ·rw [if_neg c12] at H
    exact absurd H (by simp)
   rw [if_pos c12] at H
   have c12b0 : decide (x18_1 < (l0.length : Int)) = true := decide_eq_true c12
   clear c12
   obtain ⟨t116, A13, H⟩ := bS_ H
   by_cases c14 : x18_1 < (t108.length : Int)
   rotate_left
   ·rw [if_neg c14] at H
    exact absurd H (by simp)
   rw [if_pos c14] at H
   have c14b0 : decide (x18_1 < (t108.length : Int)) = true := decide_eq_true c14
   clear c14
   obtain ⟨bq15, hbq15⟩ : ∃ b_ : Bool, b_ = (rdOf false t108 x18_1) := ⟨_, rfl⟩
   replace H : (if bq15 = true then (if t116 ≥ 0 then (if x18_1 < (t111.length : Int) then ((slices_Contains_int_int.f k1 (rd_L5 t111 x18_1) t116).bind fun t119 => (if t119 = true then (if ((rd_T28 l0 x18_1).f0) = 1 then (if x18_1 < (x3_1.length : Int) then (dead_Needless.l0 k1 (x3_1.set (x18_1 : Int).toNat (((rd_T28 l0 x18_1).f3) == t116)) t108 t111 l0 (l0.length : Int) (wrap64 (x18_1 + 1))) else (none)) else (if x18_1 < (x3_1.length : Int) then (dead_Needless.l0 k1 (x3_1.set (x18_1 : Int).toNat false) t108 t111 l0 (l0.length : Int) (wrap64 (x18_1 + 1))) else (none))) else (if x18_1 < (x3_1.length : Int) then (dead_Needless.l0 k1 (x3_1.set (x18_1 : Int).toNat true) t108 t111 l0 (l0.length : Int) (wrap64 (x18_1 + 1))) else (none)))) else (none)) else (if ((rd_T28 l0 x18_1).f0) = 6 then (if x18_1 < (x3_1.length : Int) then (dead_Needless.l0 k1 (x3_1.set (x18_1 : Int).toNat (((rd_T28 l0 x18_1).f6) == (wrap64 (x18_1 + 1)))) t108 t111 l0 (l0.length : Int) (wrap64 (x18_1 + 1))) else (none)) else (dead_Needless.l0 k1 x3_1 t108 t111 l0 (l0.length : Int) (wrap64 (x18_1 + 1))))) else (if x18_1 < (x3_1.length : Int) then (dead_Needless.l0 k1 (x3_1.set (x18_1 : Int).toNat true) t108 t111 l0 (l0.length : Int) (wrap64 (x18_1 + 1))) else (none))) = some r := by rw [← hbq15] at H; exact H
   have Nbq15 := Aside0.mk hbq15
   clear hbq15
   by_cases c16 : bq15 = true
   rotate_left
   ·replace c16 := Bool.eq_false_iff.mpr c16
    subst c16
    rw [if_neg nf_] at H
    by_cases c66 : x18_1 < (x3_1.length : Int)
    rotate_left
    ·rw [if_neg c66] at H
     exact absurd H (by simp)
    rw [if_pos c66] at H
    have c66b0 : decide (x18_1 < (x3_1.length : Int)) = true := decide_eq_true c66
    clear c66
    obtain ⟨y124, hy_⟩ : ∃ y_ : List Bool, y_ = (x3_1.set (x18_1 : Int).toNat true) := ⟨_, rfl⟩
    replace H : (dead_Needless.l0 k1 y124 t108 t111 l0 (l0.length : Int) (wrap64 (x18_1 + 1))) = some r := aq4
    have Ny124 := Aside0.mk hy_
    clear hy_
    have H' := Aside0.mk H
    clear H
    have p114 : 0 ≤ (x18_1 : Int) := of_decide_eq_true aq3
    have q114 : x18_1 < (l0.length : Int) := of_decide_eq_true aq3
    obtain ⟨ad114, e114, hx114_0, hx114_1, hx114_2, hx114_3, hx114_4, hx114_5, hx114_6⟩ := at_T28 HR0.out x18_1 p114 q114
    cases e114
    replace hx114_0 := (HB.out.cell (World.block_lt_of_cell? w _ hx114_0)).trans hx114_0
    replace hx114_1 := (HB.out.cell (World.block_lt_of_cell? w _ hx114_1)).trans hx114_1
    replace hx114_2 := (HB.out.cell (World.block_lt_of_cell? w _ hx114_2)).trans hx114_2
    replace hx114_3 := (HB.out.cell (World.block_lt_of_cell? w _ hx114_3)).trans hx114_3
    replace hx114_4 := (HB.out.cell (World.block_lt_of_cell? w _ hx114_4)).trans hx114_4
    replace hx114_5 := (HB.out.cell (World.block_lt_of_cell? w _ hx114_5)).trans hx114_5
    replace hx114_6 := (HB.out.cell (World.block_lt_of_cell? w _ hx114_6)).trans hx114_6
    replace p114 := eq_true p114
    replace q114 := eq_true q114
    go_wp2_with (first | ((with_reducible refine gate_dst (N := 7) rfl ?_); refine box_event ?hg (N := 7) ?hd (cs := #[.int .i64 0, .int .i64 0, .int .i64 0, .int .i64 0, .int .i64 0, .int .i64 0, .int .i64 0]) (t := 28) ?hr ?_; (case hd => rfl); (case hg => rfl); (case hr => first | (go_simp; done) | (go_simp; rfl)); intro gb0 hg w68 hbox hb; have n0_ := Aside0.mk (Kd.R_below aq16 hb); have n1_ := Aside0.mk (Kd.R_below aq12 hb); have n2_ := Aside0.mk (Kd.S_below aq13 hb); have n3_ := Aside0.mk (below_step aq0 hb); have n4_ := Aside0.mk (hbox); have n5_ := Aside0.mk ((by rw [hg]; exact (below_size aq0) : w.heap.size ≤ gb0)); have n6_ := Aside0.mk ((by rw [hg]; exact (below_size aq0) : w.heap.size ≤ gb0)); clear HO_3; clear HO_4; clear HO_5; clear HB; have HO_3 := n0_; have HO_4 := n1_; have HO_5 := n2_; have HB := n3_; have BK0 := n4_; have GW0 := n5_; have GE0 := n6_; clear n0_ n1_ n2_ n3_ n4_ n5_ n6_; clear hb hbox hg; obtain ⟨hcz69_0, hcz69_1, hcz69_2, hcz69_3, hcz69_4, hcz69_5, hcz69_6, hfz69_0, hfz69_1, hfz69_2, hfz69_3, hfz69_4, hfz69_5, hfz69_6⟩ := czf7 BK0.out) | ((with_reducible refine gate_callee (f := 25) rfl ?_); refine goesL_ (some 24) rfl rfl Tryd.func25 (by kernel_rfl) rfl #[.agg #[.int .i64 ((rd_T28 l0 x18_1).f0), .int .i64 ((rd_T28 l0 x18_1).f1), .int .i64 ((rd_T28 l0 x18_1).f2), .int .i64 ((rd_T28 l0 x18_1).f3), .int .i64 ((rd_T28 l0 x18_1).f4), .int .i64 ((rd_T28 l0 x18_1).f5), .int .i64 ((rd_T28 l0 x18_1).f6)]] rfl aq5 ?_; (with_reducible refine (ins_Def.calls ((rd_T28 l0 x18_1).f0) ((rd_T28 l0 x18_1).f1) ((rd_T28 l0 x18_1).f2) ((rd_T28 l0 x18_1).f3) ((rd_T28 l0 x18_1).f4) ((rd_T28 l0 x18_1).f5) ((rd_T28 l0 x18_1).f6) t116 _ A13.out (GlobOK.step HGL.out aq2)).mono ?_); rintro e w70 ⟨rfl, hb⟩; refine ⟨_, rfl, ?_⟩; replace HO_3 := Aside0.mk (Kd.R_below aq6 hb); replace HO_4 := Aside0.mk (Kd.R_below aq7 hb); replace HO_5 := Aside0.mk (Kd.S_below aq8 hb); replace BK0 := Aside0.mk (blk_below (g := gb0) (o := .cells #[.int .i64 ((rd_T28 l0 x18_1).f0), .int .i64 ((rd_T28 l0 x18_1).f1), .int .i64 ((rd_T28 l0 x18_1).f2), .int .i64 ((rd_T28 l0 x18_1).f3), .int .i64 ((rd_T28 l0 x18_1).f4), .int .i64 ((rd_T28 l0 x18_1).f5), .int .i64 ((rd_T28 l0 x18_1).f6)] 28 (0, 0)) aq1 hb); replace HB := Aside0.mk (below_step aq2 hb); (try clear hb); (try clear hb2); (try clear hk); (try clear hi); obtain ⟨Ao71, co71, eo71⟩ := Kd.R_slice HO_4.out; subst eo71; have p117 : 0 ≤ (x18_1 : Int) := of_decide_eq_true aq3; have q117 : x18_1 < (t108.length : Int) := of_decide_eq_true aq3; obtain ⟨ad117, e117, hx117_0⟩ := Kd.at_bool (Kd.R_reads' HO_4.out).2.2 x18_1 p117 q117; (try rw [← Nbq15.out] at hx117_0); cases e117; replace p117 := eq_true p117; replace q117 := eq_true q117; have p67 : 0 ≤ (x18_1 : Int) := of_decide_eq_true aq3; have q67 : (x18_1 : Int) < ((x3_1.length : Int) : Int) := of_decide_eq_true aq3; obtain ⟨go67, co67, eo67, gb1, gl67, cl67, HG67⟩ := Kd.R_form HO_3.out (by omega); (first | cases eo67 | (injection eo67 with ea_ en_ ec_; (first | subst ea_ | (injection ea_ with ea_; subst ea_)); subst ec_; clear en_)); have GB67 := Aside0.mk gb1; have GG67 := Aside0.mk HG67; clear gb1 gl67 HG67; obtain ⟨hx67_0, hf67_0⟩ := Kd.R_celln false HO_3.out (x18_1 : Int) p67 q67; replace p67 := eq_true p67; replace q67 := eq_true q67; obtain ⟨hy72_, hz72_⟩ := Kd.R_celln false HO_3.out (x18_1 : Int) (of_decide_eq_true aq3) (of_decide_eq_true aq3); have HP72 := Kd.R_putg HO_3.out (x18_1 : Int) true) | ((with_reducible refine gate_store (t := 4) (p := 33) rfl ?_); refine store_event (t := 4) (p := 33) (v := ?vo_w73) (w1 := (w70.setCell ⟨go67, (x18_1 : Int).toNat, none⟩ (.bool true))) ?hg ?ho ?hn ?hr ?_; (case ho => rfl); (case hg => rfl); (case hn => rfl); (case hr => first | (go_simp; done) | (go_simp; rfl)); intro w73 hw; have hg : w70.grownBy w73 (some go67) := (by rw [hw]; exact HP72.2); have hp_ : Kd.R Kd.bool 4 w73 w.heap.size (fun k_ => some k_ ≠ (.slice (some ad117) t108.length co71 : Value).ownBlock) (.slice (some ⟨go67, 0, none⟩) x3_1.length co67) y124 := (by rw [hw, Ny124.out]; exact HP72.1); clear HP72; replace HO_4 := Aside0.mk (Kd.R_after (v := (.slice (some ⟨go67, 0, none⟩) x3_1.length co67)) (v1 := (.slice (some ⟨go67, 0, none⟩) x3_1.length co67)) (ok := (fun _ => True)) aq24 hg (.inl rfl)); replace HO_5 := Aside0.mk (Kd.S_over' (v := (.slice (some ⟨go67, 0, none⟩) x3_1.length co67)) aq13 (Kd.R_typed HO_3.out) (by decide) hg); replace BK0 := Aside0.mk (blk_grown (g := gb0) (o := .cells #[.int .i64 ((rd_T28 l0 x18_1).f0), .int .i64 ((rd_T28 l0 x18_1).f1), .int .i64 ((rd_T28 l0 x18_1).f2), .int .i64 ((rd_T28 l0 x18_1).f3), .int .i64 ((rd_T28 l0 x18_1).f4), .int .i64 ((rd_T28 l0 x18_1).f5), .int .i64 ((rd_T28 l0 x18_1).f6)] 28 (0, 0)) aq10 hg (Kd.R_ne HO_3.out BK0.out (by decide))); replace HO_3 := Aside0.mk (hp_); replace HB := Aside0.mk ((by rw [hw]; exact below_set (HB.out) GB67.out : Below w.heap.size w w73)); clear hg hw hp_))
    go_roundg k1
    case measure => have := HK1.out; omega
    case rel => exact ⟨(y124), (wrap64 (x18_1 + 1)), aq9, H', ⟨aq40⟩, ⟨aq16⟩, ⟨aq25⟩, ⟨aq13⟩, ⟨aq2⟩⟩
   subst c16
   rw [if_pos rfl] at H
   by_cases c17 : t116 ≥ 0
   rotate_left
   ·rw [if_neg c17] at H
    have c17b0 : decide (0 ≤ t116) = false := decide_eq_false c17
    clear c17
    by_cases c51 : ((rd_T28 l0 x18_1).f0) = 6
    rotate_left
    ·rw [if_neg c51] at H
     have c51b0 : (((rd_T28 l0 x18_1).f0) == 6) = false := beq_eq_false_iff_ne.mpr c51
     have c51b1 : (((rd_T28 l0 x18_1).f0) != 6) = true := bne_iff_ne.mpr c51
     have H' := Aside0.mk H
     clear H
     have p114 : 0 ≤ (x18_1 : Int) := of_decide_eq_true aq3
     have q114 : x18_1 < (l0.length : Int) := of_decide_eq_true aq3
     obtain ⟨ad114, e114, hx114_0, hx114_1, hx114_2, hx114_3, hx114_4, hx114_5, hx114_6⟩ := at_T28 HR0.out x18_1 p114 q114
     cases e114
     replace hx114_0 := (HB.out.cell (World.block_lt_of_cell? w _ hx114_0)).trans hx114_0
     replace hx114_1 := (HB.out.cell (World.block_lt_of_cell? w _ hx114_1)).trans hx114_1
     replace hx114_2 := (HB.out.cell (World.block_lt_of_cell? w _ hx114_2)).trans hx114_2
     replace hx114_3 := (HB.out.cell (World.block_lt_of_cell? w _ hx114_3)).trans hx114_3
     replace hx114_4 := (HB.out.cell (World.block_lt_of_cell? w _ hx114_4)).trans hx114_4
     replace hx114_5 := (HB.out.cell (World.block_lt_of_cell? w _ hx114_5)).trans hx114_5
     replace hx114_6 := (HB.out.cell (World.block_lt_of_cell? w _ hx114_6)).trans hx114_6
     replace p114 := eq_true p114
     replace q114 := eq_true q114
     go_wp2_with (first | ((with_reducible refine gate_dst (N := 7) rfl ?_); refine box_event ?hg (N := 7) ?hd (cs := #[.int .i64 0, .int .i64 0, .int .i64 0, .int .i64 0, .int .i64 0, .int .i64 0, .int .i64 0]) (t := 28) ?hr ?_; (case hd => rfl); (case hg => rfl); (case hr => first | (go_simp; done) | (go_simp; rfl)); intro gb0 hg w61 hbox hb; have n0_ := Aside0.mk (Kd.R_below aq16 hb); have n1_ := Aside0.mk (Kd.R_below aq12 hb); have n2_ := Aside0.mk (Kd.S_below aq13 hb); have n3_ := Aside0.mk (below_step aq0 hb); have n4_ := Aside0.mk (hbox); have n5_ := Aside0.mk ((by rw [hg]; exact (below_size aq0) : w.heap.size ≤ gb0)); have n6_ := Aside0.mk ((by rw [hg]; exact (below_size aq0) : w.heap.size ≤ gb0)); clear HO_3; clear HO_4; clear HO_5; clear HB; have HO_3 := n0_; have HO_4 := n1_; have HO_5 := n2_; have HB := n3_; have BK0 := n4_; have GW0 := n5_; have GE0 := n6_; clear n0_ n1_ n2_ n3_ n4_ n5_ n6_; clear hb hbox hg; obtain ⟨hcz62_0, hcz62_1, hcz62_2, hcz62_3, hcz62_4, hcz62_5, hcz62_6, hfz62_0, hfz62_1, hfz62_2, hfz62_3, hfz62_4, hfz62_5, hfz62_6⟩ := czf7 BK0.out) | ((with_reducible refine gate_callee (f := 25) rfl ?_); refine goesL_ (some 24) rfl rfl Tryd.func25 (by kernel_rfl) rfl #[.agg #[.int .i64 ((rd_T28 l0 x18_1).f0), .int .i64 ((rd_T28 l0 x18_1).f1), .int .i64 ((rd_T28 l0 x18_1).f2), .int .i64 ((rd_T28 l0 x18_1).f3), .int .i64 ((rd_T28 l0 x18_1).f4), .int .i64 ((rd_T28 l0 x18_1).f5), .int .i64 ((rd_T28 l0 x18_1).f6)]] rfl aq5 ?_; (with_reducible refine (ins_Def.calls ((rd_T28 l0 x18_1).f0) ((rd_T28 l0 x18_1).f1) ((rd_T28 l0 x18_1).f2) ((rd_T28 l0 x18_1).f3) ((rd_T28 l0 x18_1).f4) ((rd_T28 l0 x18_1).f5) ((rd_T28 l0 x18_1).f6) t116 _ A13.out (GlobOK.step HGL.out aq2)).mono ?_); rintro e w63 ⟨rfl, hb⟩; refine ⟨_, rfl, ?_⟩; replace HO_3 := Aside0.mk (Kd.R_below aq6 hb); replace HO_4 := Aside0.mk (Kd.R_below aq7 hb); replace HO_5 := Aside0.mk (Kd.S_below aq8 hb); replace BK0 := Aside0.mk (blk_below (g := gb0) (o := .cells #[.int .i64 ((rd_T28 l0 x18_1).f0), .int .i64 ((rd_T28 l0 x18_1).f1), .int .i64 ((rd_T28 l0 x18_1).f2), .int .i64 ((rd_T28 l0 x18_1).f3), .int .i64 ((rd_T28 l0 x18_1).f4), .int .i64 ((rd_T28 l0 x18_1).f5), .int .i64 ((rd_T28 l0 x18_1).f6)] 28 (0, 0)) aq1 hb); replace HB := Aside0.mk (below_step aq2 hb); (try clear hb); (try clear hb2); (try clear hk); (try clear hi); obtain ⟨Ao64, co64, eo64⟩ := Kd.R_slice HO_4.out; subst eo64; have p117 : 0 ≤ (x18_1 : Int) := of_decide_eq_true aq3; have q117 : x18_1 < (t108.length : Int) := of_decide_eq_true aq3; obtain ⟨ad117, e117, hx117_0⟩ := Kd.at_bool (Kd.R_reads' HO_4.out).2.2 x18_1 p117 q117; (try rw [← Nbq15.out] at hx117_0); cases e117; replace p117 := eq_true p117; replace q117 := eq_true q117; obtain ⟨hcz65_0, hcz65_1, hcz65_2, hcz65_3, hcz65_4, hcz65_5, hcz65_6, hfz65_0, hfz65_1, hfz65_2, hfz65_3, hfz65_4, hfz65_5, hfz65_6⟩ := czf7 BK0.out))
     go_roundg k1
     case measure => have := HK1.out; omega
     case rel => exact ⟨(x3_1), (wrap64 (x18_1 + 1)), aq9, H', ⟨aq40⟩, ⟨aq16⟩, ⟨aq12⟩, ⟨aq13⟩, ⟨aq2⟩⟩
    rw [if_pos c51] at H
    have c51b0 : (((rd_T28 l0 x18_1).f0) == 6) = true := beq_iff_eq.mpr c51
    have c51b1 : (((rd_T28 l0 x18_1).f0) != 6) = false := bne_eq_false_iff_eq.mpr c51
    clear c51
    by_cases c52 : x18_1 < (x3_1.length : Int)
    rotate_left
    ·rw [if_neg c52] at H
     exact absurd H (by simp)
    rw [if_pos c52] at H
    have c52b0 : decide (x18_1 < (x3_1.length : Int)) = true := decide_eq_true c52
    clear c52
    obtain ⟨y123, hy_⟩ : ∃ y_ : List Bool, y_ = (x3_1.set (x18_1 : Int).toNat (((rd_T28 l0 x18_1).f6) == (wrap64 (x18_1 + 1)))) := ⟨_, rfl⟩
    replace H : (dead_Needless.l0 k1 y123 t108 t111 l0 (l0.length : Int) (wrap64 (x18_1 + 1))) = some r := aq4
    have Ny123 := Aside0.mk hy_
    clear hy_
    have H' := Aside0.mk H
    clear H
    have p114 : 0 ≤ (x18_1 : Int) := of_decide_eq_true aq3
    have q114 : x18_1 < (l0.length : Int) := of_decide_eq_true aq3
    obtain ⟨ad114, e114, hx114_0, hx114_1, hx114_2, hx114_3, hx114_4, hx114_5, hx114_6⟩ := at_T28 HR0.out x18_1 p114 q114
    cases e114
    replace hx114_0 := (HB.out.cell (World.block_lt_of_cell? w _ hx114_0)).trans hx114_0
    replace hx114_1 := (HB.out.cell (World.block_lt_of_cell? w _ hx114_1)).trans hx114_1
    replace hx114_2 := (HB.out.cell (World.block_lt_of_cell? w _ hx114_2)).trans hx114_2
    replace hx114_3 := (HB.out.cell (World.block_lt_of_cell? w _ hx114_3)).trans hx114_3
    replace hx114_4 := (HB.out.cell (World.block_lt_of_cell? w _ hx114_4)).trans hx114_4
    replace hx114_5 := (HB.out.cell (World.block_lt_of_cell? w _ hx114_5)).trans hx114_5
    replace hx114_6 := (HB.out.cell (World.block_lt_of_cell? w _ hx114_6)).trans hx114_6
    replace p114 := eq_true p114
    replace q114 := eq_true q114
    go_wp2_with (first | ((with_reducible refine gate_dst (N := 7) rfl ?_); refine box_event ?hg (N := 7) ?hd (cs := #[.int .i64 0, .int .i64 0, .int .i64 0, .int .i64 0, .int .i64 0, .int .i64 0, .int .i64 0]) (t := 28) ?hr ?_; (case hd => rfl); (case hg => rfl); (case hr => first | (go_simp; done) | (go_simp; rfl)); intro gb0 hg w54 hbox hb; have n0_ := Aside0.mk (Kd.R_below aq16 hb); have n1_ := Aside0.mk (Kd.R_below aq12 hb); have n2_ := Aside0.mk (Kd.S_below aq13 hb); have n3_ := Aside0.mk (below_step aq0 hb); have n4_ := Aside0.mk (hbox); have n5_ := Aside0.mk ((by rw [hg]; exact (below_size aq0) : w.heap.size ≤ gb0)); have n6_ := Aside0.mk ((by rw [hg]; exact (below_size aq0) : w.heap.size ≤ gb0)); clear HO_3; clear HO_4; clear HO_5; clear HB; have HO_3 := n0_; have HO_4 := n1_; have HO_5 := n2_; have HB := n3_; have BK0 := n4_; have GW0 := n5_; have GE0 := n6_; clear n0_ n1_ n2_ n3_ n4_ n5_ n6_; clear hb hbox hg; obtain ⟨hcz55_0, hcz55_1, hcz55_2, hcz55_3, hcz55_4, hcz55_5, hcz55_6, hfz55_0, hfz55_1, hfz55_2, hfz55_3, hfz55_4, hfz55_5, hfz55_6⟩ := czf7 BK0.out) | ((with_reducible refine gate_callee (f := 25) rfl ?_); refine goesL_ (some 24) rfl rfl Tryd.func25 (by kernel_rfl) rfl #[.agg #[.int .i64 ((rd_T28 l0 x18_1).f0), .int .i64 ((rd_T28 l0 x18_1).f1), .int .i64 ((rd_T28 l0 x18_1).f2), .int .i64 ((rd_T28 l0 x18_1).f3), .int .i64 ((rd_T28 l0 x18_1).f4), .int .i64 ((rd_T28 l0 x18_1).f5), .int .i64 ((rd_T28 l0 x18_1).f6)]] rfl aq5 ?_; (with_reducible refine (ins_Def.calls ((rd_T28 l0 x18_1).f0) ((rd_T28 l0 x18_1).f1) ((rd_T28 l0 x18_1).f2) ((rd_T28 l0 x18_1).f3) ((rd_T28 l0 x18_1).f4) ((rd_T28 l0 x18_1).f5) ((rd_T28 l0 x18_1).f6) t116 _ A13.out (GlobOK.step HGL.out aq2)).mono ?_); rintro e w56 ⟨rfl, hb⟩; refine ⟨_, rfl, ?_⟩; replace HO_3 := Aside0.mk (Kd.R_below aq6 hb); replace HO_4 := Aside0.mk (Kd.R_below aq7 hb); replace HO_5 := Aside0.mk (Kd.S_below aq8 hb); replace BK0 := Aside0.mk (blk_below (g := gb0) (o := .cells #[.int .i64 ((rd_T28 l0 x18_1).f0), .int .i64 ((rd_T28 l0 x18_1).f1), .int .i64 ((rd_T28 l0 x18_1).f2), .int .i64 ((rd_T28 l0 x18_1).f3), .int .i64 ((rd_T28 l0 x18_1).f4), .int .i64 ((rd_T28 l0 x18_1).f5), .int .i64 ((rd_T28 l0 x18_1).f6)] 28 (0, 0)) aq1 hb); replace HB := Aside0.mk (below_step aq2 hb); (try clear hb); (try clear hb2); (try clear hk); (try clear hi); obtain ⟨Ao57, co57, eo57⟩ := Kd.R_slice HO_4.out; subst eo57; have p117 : 0 ≤ (x18_1 : Int) := of_decide_eq_true aq3; have q117 : x18_1 < (t108.length : Int) := of_decide_eq_true aq3; obtain ⟨ad117, e117, hx117_0⟩ := Kd.at_bool (Kd.R_reads' HO_4.out).2.2 x18_1 p117 q117; (try rw [← Nbq15.out] at hx117_0); cases e117; replace p117 := eq_true p117; replace q117 := eq_true q117; obtain ⟨hcz58_0, hcz58_1, hcz58_2, hcz58_3, hcz58_4, hcz58_5, hcz58_6, hfz58_0, hfz58_1, hfz58_2, hfz58_3, hfz58_4, hfz58_5, hfz58_6⟩ := czf7 BK0.out; have p53 : 0 ≤ (x18_1 : Int) := of_decide_eq_true aq3; have q53 : (x18_1 : Int) < ((x3_1.length : Int) : Int) := of_decide_eq_true aq3; obtain ⟨go53, co53, eo53, gb2, gl53, cl53, HG53⟩ := Kd.R_form HO_3.out (by omega); (first | cases eo53 | (injection eo53 with ea_ en_ ec_; (first | subst ea_ | (injection ea_ with ea_; subst ea_)); subst ec_; clear en_)); have GB53 := Aside0.mk gb2; have GG53 := Aside0.mk HG53; clear gb2 gl53 HG53; obtain ⟨hx53_0, hf53_0⟩ := Kd.R_celln false HO_3.out (x18_1 : Int) p53 q53; replace p53 := eq_true p53; replace q53 := eq_true q53; obtain ⟨hy59_, hz59_⟩ := Kd.R_celln false HO_3.out (x18_1 : Int) (of_decide_eq_true aq3) (of_decide_eq_true aq3); have HP59 := Kd.R_putg HO_3.out (x18_1 : Int) (((rd_T28 l0 x18_1).f6) == (wrap64 (x18_1 + 1)))) | ((with_reducible refine gate_store (t := 4) (p := 69) rfl ?_); refine store_event (t := 4) (p := 69) (v := ?vo_w60) (w1 := (w56.setCell ⟨go53, (x18_1 : Int).toNat, none⟩ (.bool (((rd_T28 l0 x18_1).f6) == (wrap64 (x18_1 + 1)))))) ?hg ?ho ?hn ?hr ?_; (case ho => rfl); (case hg => rfl); (case hn => rfl); (case hr => first | (go_simp; done) | (go_simp; rfl)); intro w60 hw; have hg : w56.grownBy w60 (some go53) := (by rw [hw]; exact HP59.2); have hp_ : Kd.R Kd.bool 4 w60 w.heap.size (fun k_ => some k_ ≠ (.slice (some ad117) t108.length co57 : Value).ownBlock) (.slice (some ⟨go53, 0, none⟩) x3_1.length co53) y123 := (by rw [hw, Ny123.out]; exact HP59.1); clear HP59; replace HO_4 := Aside0.mk (Kd.R_after (v := (.slice (some ⟨go53, 0, none⟩) x3_1.length co53)) (v1 := (.slice (some ⟨go53, 0, none⟩) x3_1.length co53)) (ok := (fun _ => True)) aq24 hg (.inl rfl)); replace HO_5 := Aside0.mk (Kd.S_over' (v := (.slice (some ⟨go53, 0, none⟩) x3_1.length co53)) aq13 (Kd.R_typed HO_3.out) (by decide) hg); replace BK0 := Aside0.mk (blk_grown (g := gb0) (o := .cells #[.int .i64 ((rd_T28 l0 x18_1).f0), .int .i64 ((rd_T28 l0 x18_1).f1), .int .i64 ((rd_T28 l0 x18_1).f2), .int .i64 ((rd_T28 l0 x18_1).f3), .int .i64 ((rd_T28 l0 x18_1).f4), .int .i64 ((rd_T28 l0 x18_1).f5), .int .i64 ((rd_T28 l0 x18_1).f6)] 28 (0, 0)) aq10 hg (Kd.R_ne HO_3.out BK0.out (by decide))); replace HO_3 := Aside0.mk (hp_); replace HB := Aside0.mk ((by rw [hw]; exact below_set (HB.out) GB53.out : Below w.heap.size w w60)); clear hg hw hp_))
    go_roundg k1
    case measure => have := HK1.out; omega
    case rel => exact ⟨(y123), (wrap64 (x18_1 + 1)), aq9, H', ⟨aq40⟩, ⟨aq16⟩, ⟨aq25⟩, ⟨aq13⟩, ⟨aq2⟩⟩
   rw [if_pos c17] at H
   have c17b0 : decide (0 ≤ t116) = true := decide_eq_true c17
   clear c17
   by_cases c18 : x18_1 < (t111.length : Int)
   rotate_left
   ·rw [if_neg c18] at H
    exact absurd H (by simp)
   rw [if_pos c18] at H
   have c18b0 : decide (x18_1 < (t111.length : Int)) = true := decide_eq_true c18
   clear c18
   obtain ⟨t119, A19, H⟩ := bS_ H
   by_cases c20 : t119 = true
   rotate_left
   ·replace c20 := Bool.eq_false_iff.mpr c20
    subst c20
    rw [if_neg nf_] at H
    by_cases c42 : x18_1 < (x3_1.length : Int)
    rotate_left
    ·rw [if_neg c42] at H
     exact absurd H (by simp)
    rw [if_pos c42] at H
    have c42b0 : decide (x18_1 < (x3_1.length : Int)) = true := decide_eq_true c42
    clear c42
    obtain ⟨y122, hy_⟩ : ∃ y_ : List Bool, y_ = (x3_1.set (x18_1 : Int).toNat true) := ⟨_, rfl⟩
    replace H : (dead_Needless.l0 k1 y122 t108 t111 l0 (l0.length : Int) (wrap64 (x18_1 + 1))) = some r := aq4
    have Ny122 := Aside0.mk hy_
    clear hy_
    have H' := Aside0.mk H
    clear H
    have p114 : 0 ≤ (x18_1 : Int) := of_decide_eq_true aq3
    have q114 : x18_1 < (l0.length : Int) := of_decide_eq_true aq3
    obtain ⟨ad114, e114, hx114_0, hx114_1, hx114_2, hx114_3, hx114_4, hx114_5, hx114_6⟩ := at_T28 HR0.out x18_1 p114 q114
    cases e114
    replace hx114_0 := (HB.out.cell (World.block_lt_of_cell? w _ hx114_0)).trans hx114_0
    replace hx114_1 := (HB.out.cell (World.block_lt_of_cell? w _ hx114_1)).trans hx114_1
    replace hx114_2 := (HB.out.cell (World.block_lt_of_cell? w _ hx114_2)).trans hx114_2
    replace hx114_3 := (HB.out.cell (World.block_lt_of_cell? w _ hx114_3)).trans hx114_3
    replace hx114_4 := (HB.out.cell (World.block_lt_of_cell? w _ hx114_4)).trans hx114_4
    replace hx114_5 := (HB.out.cell (World.block_lt_of_cell? w _ hx114_5)).trans hx114_5
    replace hx114_6 := (HB.out.cell (World.block_lt_of_cell? w _ hx114_6)).trans hx114_6
    replace p114 := eq_true p114
    replace q114 := eq_true q114
    go_wp2_with (first | ((with_reducible refine gate_dst (N := 7) rfl ?_); refine box_event ?hg (N := 7) ?hd (cs := #[.int .i64 0, .int .i64 0, .int .i64 0, .int .i64 0, .int .i64 0, .int .i64 0, .int .i64 0]) (t := 28) ?hr ?_; (case hd => rfl); (case hg => rfl); (case hr => first | (go_simp; done) | (go_simp; rfl)); intro gb0 hg w44 hbox hb; have n0_ := Aside0.mk (Kd.R_below aq16 hb); have n1_ := Aside0.mk (Kd.R_below aq12 hb); have n2_ := Aside0.mk (Kd.S_below aq13 hb); have n3_ := Aside0.mk (below_step aq0 hb); have n4_ := Aside0.mk (hbox); have n5_ := Aside0.mk ((by rw [hg]; exact (below_size aq0) : w.heap.size ≤ gb0)); have n6_ := Aside0.mk ((by rw [hg]; exact (below_size aq0) : w.heap.size ≤ gb0)); clear HO_3; clear HO_4; clear HO_5; clear HB; have HO_3 := n0_; have HO_4 := n1_; have HO_5 := n2_; have HB := n3_; have BK0 := n4_; have GW0 := n5_; have GE0 := n6_; clear n0_ n1_ n2_ n3_ n4_ n5_ n6_; clear hb hbox hg; obtain ⟨hcz45_0, hcz45_1, hcz45_2, hcz45_3, hcz45_4, hcz45_5, hcz45_6, hfz45_0, hfz45_1, hfz45_2, hfz45_3, hfz45_4, hfz45_5, hfz45_6⟩ := czf7 BK0.out) | ((with_reducible refine gate_callee (f := 25) rfl ?_); refine goesL_ (some 24) rfl rfl Tryd.func25 (by kernel_rfl) rfl #[.agg #[.int .i64 ((rd_T28 l0 x18_1).f0), .int .i64 ((rd_T28 l0 x18_1).f1), .int .i64 ((rd_T28 l0 x18_1).f2), .int .i64 ((rd_T28 l0 x18_1).f3), .int .i64 ((rd_T28 l0 x18_1).f4), .int .i64 ((rd_T28 l0 x18_1).f5), .int .i64 ((rd_T28 l0 x18_1).f6)]] rfl aq5 ?_; (with_reducible refine (ins_Def.calls ((rd_T28 l0 x18_1).f0) ((rd_T28 l0 x18_1).f1) ((rd_T28 l0 x18_1).f2) ((rd_T28 l0 x18_1).f3) ((rd_T28 l0 x18_1).f4) ((rd_T28 l0 x18_1).f5) ((rd_T28 l0 x18_1).f6) t116 _ A13.out (GlobOK.step HGL.out aq2)).mono ?_); rintro e w46 ⟨rfl, hb⟩; refine ⟨_, rfl, ?_⟩; replace HO_3 := Aside0.mk (Kd.R_below aq6 hb); replace HO_4 := Aside0.mk (Kd.R_below aq7 hb); replace HO_5 := Aside0.mk (Kd.S_below aq8 hb); replace BK0 := Aside0.mk (blk_below (g := gb0) (o := .cells #[.int .i64 ((rd_T28 l0 x18_1).f0), .int .i64 ((rd_T28 l0 x18_1).f1), .int .i64 ((rd_T28 l0 x18_1).f2), .int .i64 ((rd_T28 l0 x18_1).f3), .int .i64 ((rd_T28 l0 x18_1).f4), .int .i64 ((rd_T28 l0 x18_1).f5), .int .i64 ((rd_T28 l0 x18_1).f6)] 28 (0, 0)) aq1 hb); replace HB := Aside0.mk (below_step aq2 hb); (try clear hb); (try clear hb2); (try clear hk); (try clear hi); obtain ⟨Ao47, co47, eo47⟩ := Kd.R_slice HO_4.out; subst eo47; have p117 : 0 ≤ (x18_1 : Int) := of_decide_eq_true aq3; have q117 : x18_1 < (t108.length : Int) := of_decide_eq_true aq3; obtain ⟨ad117, e117, hx117_0⟩ := Kd.at_bool (Kd.R_reads' HO_4.out).2.2 x18_1 p117 q117; (try rw [← Nbq15.out] at hx117_0); cases e117; replace p117 := eq_true p117; replace q117 := eq_true q117; obtain ⟨Ao48, co48, eo48⟩ := Kd.S_slice HO_5.out; subst eo48; have p118 : 0 ≤ (x18_1 : Int) := of_decide_eq_true aq3; have q118 : x18_1 < (t111.length : Int) := of_decide_eq_true aq3; obtain ⟨ad118, A118_0, c118_0, e118, hx118_0, hl118_0, hi118_0⟩ := at_L5 (Kd.S_reads' HO_5.out).2.2 x18_1 p118 q118; cases e118; obtain ⟨ce118, hce118, hMe118, hcc118⟩ := Kd.S_get HO_5.out [] x18_1 p118 aq38; obtain ⟨ve118_0, rfl, ge118_0⟩ := hMe118; have hv118_0 := hcc118 0 _ rfl; rw [Nat.add_zero, show ((Kd.slice 3 (Kd.int .i64))).sz = 1 from rfl, Nat.mul_one] at hv118_0; replace hv118_0 := Option.some.inj (hv118_0.symm.trans hx118_0); rw [hv118_0] at ge118_0; have HL118_0 := Aside0.mk (show Kd.R (Kd.int .i64) 3 _ _ _ _ (rd_L5 t111 x18_1) from ge118_0); clear hv118_0 ge118_0; clear hcc118 hce118; have HR118_0 := Aside0.mk hi118_0; have HC118_0 := Aside0.mk hl118_0; clear hi118_0 hl118_0; replace p118 := eq_true p118; replace q118 := eq_true q118) | ((with_reducible refine gate_callee (f := 26) rfl ?_); refine goesL_ (some 44) rfl rfl Tryd.func26 (by kernel_rfl) rfl #[.slice A118_0 (rd_L5 t111 x18_1).length c118_0, .int .i64 t116] rfl aq5 ?_; (with_reducible refine (slices_Contains_int_int.calls k1 _ _ (rd_L5 t111 x18_1) t116 false _ ?side1 ?side2 A19.out).mono ?_); (case side1 => repeat (first | exact aq20 | (with_reducible refine Kd.C_alloc ?_ _) | (with_reducible refine Kd.C_drewN ?_ _) | (with_reducible refine Kd.C_drew ?_))); (case side2 => exact HC118_0.out); rintro e w' ⟨rfl, ⟨nd, rfl⟩⟩; refine ⟨_, rfl, ?_⟩; (try (rw [drewN_self w46]; generalize hq_ : World.drewN w46 _ = w46; have n0_ : Aside0 (Kd.R (Kd.int .i64) 3 w46 w.heap.size (fun k_ => some k_ ≠ (.slice (some ad118) t111.length co48 : Value).ownBlock) (.slice A118_0 (rd_L5 t111 x18_1).length c118_0) (rd_L5 t111 x18_1)) := ⟨aq36⟩; have n1_ : Aside0 (Kd.R Kd.bool 4 w46 w.heap.size (fun k_ => some k_ ≠ (.slice (some ad117) t108.length co47 : Value).ownBlock) v106 x3_1) := ⟨aq43⟩; have n2_ : Aside0 (Kd.R Kd.bool 4 w46 w.heap.size (fun k_ => some k_ ≠ (v106 : Value).ownBlock) (.slice (some ad117) t108.length co47) t108) := ⟨aq44⟩; have n3_ : Aside0 (Kd.S (Kd.slice 3 (Kd.int .i64)) 57 w46 w.heap.size (fun _ => True) (.slice (some ad118) t111.length co48) t111) := ⟨aq45⟩; have n4_ : Aside0 (w46.heap[gb0]? = some (.cells #[.int .i64 ((rd_T28 l0 x18_1).f0), .int .i64 ((rd_T28 l0 x18_1).f1), .int .i64 ((rd_T28 l0 x18_1).f2), .int .i64 ((rd_T28 l0 x18_1).f3), .int .i64 ((rd_T28 l0 x18_1).f4), .int .i64 ((rd_T28 l0 x18_1).f5), .int .i64 ((rd_T28 l0 x18_1).f6)] 28 (0, 0))) := ⟨aq41⟩; have n5_ : Aside0 (Below w.heap.size w w46) := ⟨aq33⟩; have n6_ : Aside0 (Kd.C (Kd.int .i64) w46 A118_0 (rd_L5 t111 x18_1).length (rd_L5 t111 x18_1)) := ⟨aq26⟩; clear HL118_0 HO_3 HO_4 HO_5 BK0 HB HR118_0 hq_; have HL118_0 := n0_; have HO_3 := n1_; have HO_4 := n2_; have HO_5 := n3_; have BK0 := n4_; have HB := n5_; have HR118_0 := n6_; clear n0_ n1_ n2_ n3_ n4_ n5_ n6_)); have p43 : 0 ≤ (x18_1 : Int) := of_decide_eq_true aq3; have q43 : (x18_1 : Int) < ((x3_1.length : Int) : Int) := of_decide_eq_true aq3; obtain ⟨go43, co43, eo43, gb3, gl43, cl43, HG43⟩ := Kd.R_form HO_3.out (by omega); (first | cases eo43 | (injection eo43 with ea_ en_ ec_; (first | subst ea_ | (injection ea_ with ea_; subst ea_)); subst ec_; clear en_)); have GB43 := Aside0.mk gb3; have GG43 := Aside0.mk HG43; clear gb3 gl43 HG43; obtain ⟨hx43_0, hf43_0⟩ := Kd.R_celln false HO_3.out (x18_1 : Int) p43 q43; replace p43 := eq_true p43; replace q43 := eq_true q43; obtain ⟨hy49_, hz49_⟩ := Kd.R_celln false HO_3.out (x18_1 : Int) (of_decide_eq_true aq3) (of_decide_eq_true aq3); have HP49 := Kd.R_putg HO_3.out (x18_1 : Int) true) | ((with_reducible refine gate_store (t := 4) (p := 57) rfl ?_); refine store_event (t := 4) (p := 57) (v := ?vo_w50) (w1 := (w46.setCell ⟨go43, (x18_1 : Int).toNat, none⟩ (.bool true))) ?hg ?ho ?hn ?hr ?_; (case ho => rfl); (case hg => rfl); (case hn => rfl); (case hr => first | (go_simp; done) | (go_simp; rfl)); intro w50 hw; have hg : w46.grownBy w50 (some go43) := (by rw [hw]; exact HP49.2); have hp_ : Kd.R Kd.bool 4 w50 w.heap.size (fun k_ => some k_ ≠ (.slice (some ad117) t108.length co47 : Value).ownBlock) (.slice (some ⟨go43, 0, none⟩) x3_1.length co43) y122 := (by rw [hw, Ny122.out]; exact HP49.1); clear HP49; have n0_ := Aside0.mk (hp_); have n1_ := Aside0.mk (Kd.R_after (v := (.slice (some ⟨go43, 0, none⟩) x3_1.length co43)) (v1 := (.slice (some ⟨go43, 0, none⟩) x3_1.length co43)) (ok := (fun _ => True)) aq24 hg (.inl rfl)); have n2_ := Aside0.mk (Kd.S_over' (v := (.slice (some ⟨go43, 0, none⟩) x3_1.length co43)) aq13 (Kd.R_typed HO_3.out) (by decide) hg); have n3_ := Aside0.mk (blk_grown (g := gb0) (o := .cells #[.int .i64 ((rd_T28 l0 x18_1).f0), .int .i64 ((rd_T28 l0 x18_1).f1), .int .i64 ((rd_T28 l0 x18_1).f2), .int .i64 ((rd_T28 l0 x18_1).f3), .int .i64 ((rd_T28 l0 x18_1).f4), .int .i64 ((rd_T28 l0 x18_1).f5), .int .i64 ((rd_T28 l0 x18_1).f6)] 28 (0, 0)) aq10 hg (Kd.R_ne HO_3.out BK0.out (by decide))); have n4_ := Aside0.mk (Kd.R_over' (v := (.slice (some ⟨go43, 0, none⟩) x3_1.length co43)) aq46 (Kd.R_typed HO_3.out) (by decide) hg); have n5_ := Aside0.mk ((by rw [hw]; exact below_set (HB.out) GB43.out : Below w.heap.size w w50)); clear HO_3; clear HO_4; clear HO_5; clear BK0; clear HL118_0; clear HB; have HO_3 := n0_; have HO_4 := n1_; have HO_5 := n2_; have BK0 := n3_; have HL118_0 := n4_; have HB := n5_; clear n0_ n1_ n2_ n3_ n4_ n5_; clear hg hw hp_))
    go_roundg k1
    case measure => have := HK1.out; omega
    case rel => exact ⟨(y122), (wrap64 (x18_1 + 1)), aq9, H', ⟨aq40⟩, ⟨aq16⟩, ⟨aq25⟩, ⟨aq13⟩, ⟨aq2⟩⟩
   subst c20
   rw [if_pos rfl] at H
   by_cases c21 : ((rd_T28 l0 x18_1).f0) = 1
   rotate_left
   ·rw [if_neg c21] at H
    have c21b0 : (((rd_T28 l0 x18_1).f0) == 1) = false := beq_eq_false_iff_ne.mpr c21
    have c21b1 : (((rd_T28 l0 x18_1).f0) != 1) = true := bne_iff_ne.mpr c21
    by_cases c32 : x18_1 < (x3_1.length : Int)
    rotate_left
    ·rw [if_neg c32] at H
     exact absurd H (by simp)
    rw [if_pos c32] at H
    have c32b0 : decide (x18_1 < (x3_1.length : Int)) = true := decide_eq_true c32
    clear c32
    obtain ⟨y121, hy_⟩ : ∃ y_ : List Bool, y_ = (x3_1.set (x18_1 : Int).toNat false) := ⟨_, rfl⟩
    replace H : (dead_Needless.l0 k1 y121 t108 t111 l0 (l0.length : Int) (wrap64 (x18_1 + 1))) = some r := aq4
    have Ny121 := Aside0.mk hy_
    clear hy_
    have H' := Aside0.mk H
    clear H
    have p114 : 0 ≤ (x18_1 : Int) := of_decide_eq_true aq3
    have q114 : x18_1 < (l0.length : Int) := of_decide_eq_true aq3
    obtain ⟨ad114, e114, hx114_0, hx114_1, hx114_2, hx114_3, hx114_4, hx114_5, hx114_6⟩ := at_T28 HR0.out x18_1 p114 q114
    cases e114
    replace hx114_0 := (HB.out.cell (World.block_lt_of_cell? w _ hx114_0)).trans hx114_0
    replace hx114_1 := (HB.out.cell (World.block_lt_of_cell? w _ hx114_1)).trans hx114_1
    replace hx114_2 := (HB.out.cell (World.block_lt_of_cell? w _ hx114_2)).trans hx114_2
    replace hx114_3 := (HB.out.cell (World.block_lt_of_cell? w _ hx114_3)).trans hx114_3
    replace hx114_4 := (HB.out.cell (World.block_lt_of_cell? w _ hx114_4)).trans hx114_4
    replace hx114_5 := (HB.out.cell (World.block_lt_of_cell? w _ hx114_5)).trans hx114_5
    replace hx114_6 := (HB.out.cell (World.block_lt_of_cell? w _ hx114_6)).trans hx114_6
    replace p114 := eq_true p114
    replace q114 := eq_true q114
    go_wp2_with (first | ((with_reducible refine gate_dst (N := 7) rfl ?_); refine box_event ?hg (N := 7) ?hd (cs := #[.int .i64 0, .int .i64 0, .int .i64 0, .int .i64 0, .int .i64 0, .int .i64 0, .int .i64 0]) (t := 28) ?hr ?_; (case hd => rfl); (case hg => rfl); (case hr => first | (go_simp; done) | (go_simp; rfl)); intro gb0 hg w34 hbox hb; have n0_ := Aside0.mk (Kd.R_below aq16 hb); have n1_ := Aside0.mk (Kd.R_below aq12 hb); have n2_ := Aside0.mk (Kd.S_below aq13 hb); have n3_ := Aside0.mk (below_step aq0 hb); have n4_ := Aside0.mk (hbox); have n5_ := Aside0.mk ((by rw [hg]; exact (below_size aq0) : w.heap.size ≤ gb0)); have n6_ := Aside0.mk ((by rw [hg]; exact (below_size aq0) : w.heap.size ≤ gb0)); clear HO_3; clear HO_4; clear HO_5; clear HB; have HO_3 := n0_; have HO_4 := n1_; have HO_5 := n2_; have HB := n3_; have BK0 := n4_; have GW0 := n5_; have GE0 := n6_; clear n0_ n1_ n2_ n3_ n4_ n5_ n6_; clear hb hbox hg; obtain ⟨hcz35_0, hcz35_1, hcz35_2, hcz35_3, hcz35_4, hcz35_5, hcz35_6, hfz35_0, hfz35_1, hfz35_2, hfz35_3, hfz35_4, hfz35_5, hfz35_6⟩ := czf7 BK0.out) | ((with_reducible refine gate_callee (f := 25) rfl ?_); refine goesL_ (some 24) rfl rfl Tryd.func25 (by kernel_rfl) rfl #[.agg #[.int .i64 ((rd_T28 l0 x18_1).f0), .int .i64 ((rd_T28 l0 x18_1).f1), .int .i64 ((rd_T28 l0 x18_1).f2), .int .i64 ((rd_T28 l0 x18_1).f3), .int .i64 ((rd_T28 l0 x18_1).f4), .int .i64 ((rd_T28 l0 x18_1).f5), .int .i64 ((rd_T28 l0 x18_1).f6)]] rfl aq5 ?_; (with_reducible refine (ins_Def.calls ((rd_T28 l0 x18_1).f0) ((rd_T28 l0 x18_1).f1) ((rd_T28 l0 x18_1).f2) ((rd_T28 l0 x18_1).f3) ((rd_T28 l0 x18_1).f4) ((rd_T28 l0 x18_1).f5) ((rd_T28 l0 x18_1).f6) t116 _ A13.out (GlobOK.step HGL.out aq2)).mono ?_); rintro e w36 ⟨rfl, hb⟩; refine ⟨_, rfl, ?_⟩; replace HO_3 := Aside0.mk (Kd.R_below aq6 hb); replace HO_4 := Aside0.mk (Kd.R_below aq7 hb); replace HO_5 := Aside0.mk (Kd.S_below aq8 hb); replace BK0 := Aside0.mk (blk_below (g := gb0) (o := .cells #[.int .i64 ((rd_T28 l0 x18_1).f0), .int .i64 ((rd_T28 l0 x18_1).f1), .int .i64 ((rd_T28 l0 x18_1).f2), .int .i64 ((rd_T28 l0 x18_1).f3), .int .i64 ((rd_T28 l0 x18_1).f4), .int .i64 ((rd_T28 l0 x18_1).f5), .int .i64 ((rd_T28 l0 x18_1).f6)] 28 (0, 0)) aq1 hb); replace HB := Aside0.mk (below_step aq2 hb); (try clear hb); (try clear hb2); (try clear hk); (try clear hi); obtain ⟨Ao37, co37, eo37⟩ := Kd.R_slice HO_4.out; subst eo37; have p117 : 0 ≤ (x18_1 : Int) := of_decide_eq_true aq3; have q117 : x18_1 < (t108.length : Int) := of_decide_eq_true aq3; obtain ⟨ad117, e117, hx117_0⟩ := Kd.at_bool (Kd.R_reads' HO_4.out).2.2 x18_1 p117 q117; (try rw [← Nbq15.out] at hx117_0); cases e117; replace p117 := eq_true p117; replace q117 := eq_true q117; obtain ⟨Ao38, co38, eo38⟩ := Kd.S_slice HO_5.out; subst eo38; have p118 : 0 ≤ (x18_1 : Int) := of_decide_eq_true aq3; have q118 : x18_1 < (t111.length : Int) := of_decide_eq_true aq3; obtain ⟨ad118, A118_0, c118_0, e118, hx118_0, hl118_0, hi118_0⟩ := at_L5 (Kd.S_reads' HO_5.out).2.2 x18_1 p118 q118; cases e118; obtain ⟨ce118, hce118, hMe118, hcc118⟩ := Kd.S_get HO_5.out [] x18_1 p118 aq38; obtain ⟨ve118_0, rfl, ge118_0⟩ := hMe118; have hv118_0 := hcc118 0 _ rfl; rw [Nat.add_zero, show ((Kd.slice 3 (Kd.int .i64))).sz = 1 from rfl, Nat.mul_one] at hv118_0; replace hv118_0 := Option.some.inj (hv118_0.symm.trans hx118_0); rw [hv118_0] at ge118_0; have HL118_0 := Aside0.mk (show Kd.R (Kd.int .i64) 3 _ _ _ _ (rd_L5 t111 x18_1) from ge118_0); clear hv118_0 ge118_0; clear hcc118 hce118; have HR118_0 := Aside0.mk hi118_0; have HC118_0 := Aside0.mk hl118_0; clear hi118_0 hl118_0; replace p118 := eq_true p118; replace q118 := eq_true q118) | ((with_reducible refine gate_callee (f := 26) rfl ?_); refine goesL_ (some 44) rfl rfl Tryd.func26 (by kernel_rfl) rfl #[.slice A118_0 (rd_L5 t111 x18_1).length c118_0, .int .i64 t116] rfl aq5 ?_; (with_reducible refine (slices_Contains_int_int.calls k1 _ _ (rd_L5 t111 x18_1) t116 true _ ?side1 ?side2 A19.out).mono ?_); (case side1 => repeat (first | exact aq20 | (with_reducible refine Kd.C_alloc ?_ _) | (with_reducible refine Kd.C_drewN ?_ _) | (with_reducible refine Kd.C_drew ?_))); (case side2 => exact HC118_0.out); rintro e w' ⟨rfl, ⟨nd, rfl⟩⟩; refine ⟨_, rfl, ?_⟩; (try (rw [drewN_self w36]; generalize hq_ : World.drewN w36 _ = w36; have n0_ : Aside0 (Kd.R (Kd.int .i64) 3 w36 w.heap.size (fun k_ => some k_ ≠ (.slice (some ad118) t111.length co38 : Value).ownBlock) (.slice A118_0 (rd_L5 t111 x18_1).length c118_0) (rd_L5 t111 x18_1)) := ⟨aq36⟩; have n1_ : Aside0 (Kd.R Kd.bool 4 w36 w.heap.size (fun k_ => some k_ ≠ (.slice (some ad117) t108.length co37 : Value).ownBlock) v106 x3_1) := ⟨aq43⟩; have n2_ : Aside0 (Kd.R Kd.bool 4 w36 w.heap.size (fun k_ => some k_ ≠ (v106 : Value).ownBlock) (.slice (some ad117) t108.length co37) t108) := ⟨aq44⟩; have n3_ : Aside0 (Kd.S (Kd.slice 3 (Kd.int .i64)) 57 w36 w.heap.size (fun _ => True) (.slice (some ad118) t111.length co38) t111) := ⟨aq45⟩; have n4_ : Aside0 (w36.heap[gb0]? = some (.cells #[.int .i64 ((rd_T28 l0 x18_1).f0), .int .i64 ((rd_T28 l0 x18_1).f1), .int .i64 ((rd_T28 l0 x18_1).f2), .int .i64 ((rd_T28 l0 x18_1).f3), .int .i64 ((rd_T28 l0 x18_1).f4), .int .i64 ((rd_T28 l0 x18_1).f5), .int .i64 ((rd_T28 l0 x18_1).f6)] 28 (0, 0))) := ⟨aq41⟩; have n5_ : Aside0 (Below w.heap.size w w36) := ⟨aq33⟩; have n6_ : Aside0 (Kd.C (Kd.int .i64) w36 A118_0 (rd_L5 t111 x18_1).length (rd_L5 t111 x18_1)) := ⟨aq26⟩; clear HL118_0 HO_3 HO_4 HO_5 BK0 HB HR118_0 hq_; have HL118_0 := n0_; have HO_3 := n1_; have HO_4 := n2_; have HO_5 := n3_; have BK0 := n4_; have HB := n5_; have HR118_0 := n6_; clear n0_ n1_ n2_ n3_ n4_ n5_ n6_)); obtain ⟨hcz39_0, hcz39_1, hcz39_2, hcz39_3, hcz39_4, hcz39_5, hcz39_6, hfz39_0, hfz39_1, hfz39_2, hfz39_3, hfz39_4, hfz39_5, hfz39_6⟩ := czf7 BK0.out; have p33 : 0 ≤ (x18_1 : Int) := of_decide_eq_true aq3; have q33 : (x18_1 : Int) < ((x3_1.length : Int) : Int) := of_decide_eq_true aq3; obtain ⟨go33, co33, eo33, gb4, gl33, cl33, HG33⟩ := Kd.R_form HO_3.out (by omega); (first | cases eo33 | (injection eo33 with ea_ en_ ec_; (first | subst ea_ | (injection ea_ with ea_; subst ea_)); subst ec_; clear en_)); have GB33 := Aside0.mk gb4; have GG33 := Aside0.mk HG33; clear gb4 gl33 HG33; obtain ⟨hx33_0, hf33_0⟩ := Kd.R_celln false HO_3.out (x18_1 : Int) p33 q33; replace p33 := eq_true p33; replace q33 := eq_true q33; obtain ⟨hy40_, hz40_⟩ := Kd.R_celln false HO_3.out (x18_1 : Int) (of_decide_eq_true aq3) (of_decide_eq_true aq3); have HP40 := Kd.R_putg HO_3.out (x18_1 : Int) false) | ((with_reducible refine gate_store (t := 4) (p := 57) rfl ?_); refine store_event (t := 4) (p := 57) (v := ?vo_w41) (w1 := (w36.setCell ⟨go33, (x18_1 : Int).toNat, none⟩ (.bool false))) ?hg ?ho ?hn ?hr ?_; (case ho => rfl); (case hg => rfl); (case hn => rfl); (case hr => first | (go_simp; done) | (go_simp; rfl)); intro w41 hw; have hg : w36.grownBy w41 (some go33) := (by rw [hw]; exact HP40.2); have hp_ : Kd.R Kd.bool 4 w41 w.heap.size (fun k_ => some k_ ≠ (.slice (some ad117) t108.length co37 : Value).ownBlock) (.slice (some ⟨go33, 0, none⟩) x3_1.length co33) y121 := (by rw [hw, Ny121.out]; exact HP40.1); clear HP40; have n0_ := Aside0.mk (hp_); have n1_ := Aside0.mk (Kd.R_after (v := (.slice (some ⟨go33, 0, none⟩) x3_1.length co33)) (v1 := (.slice (some ⟨go33, 0, none⟩) x3_1.length co33)) (ok := (fun _ => True)) aq24 hg (.inl rfl)); have n2_ := Aside0.mk (Kd.S_over' (v := (.slice (some ⟨go33, 0, none⟩) x3_1.length co33)) aq13 (Kd.R_typed HO_3.out) (by decide) hg); have n3_ := Aside0.mk (blk_grown (g := gb0) (o := .cells #[.int .i64 ((rd_T28 l0 x18_1).f0), .int .i64 ((rd_T28 l0 x18_1).f1), .int .i64 ((rd_T28 l0 x18_1).f2), .int .i64 ((rd_T28 l0 x18_1).f3), .int .i64 ((rd_T28 l0 x18_1).f4), .int .i64 ((rd_T28 l0 x18_1).f5), .int .i64 ((rd_T28 l0 x18_1).f6)] 28 (0, 0)) aq10 hg (Kd.R_ne HO_3.out BK0.out (by decide))); have n4_ := Aside0.mk (Kd.R_over' (v := (.slice (some ⟨go33, 0, none⟩) x3_1.length co33)) aq46 (Kd.R_typed HO_3.out) (by decide) hg); have n5_ := Aside0.mk ((by rw [hw]; exact below_set (HB.out) GB33.out : Below w.heap.size w w41)); clear HO_3; clear HO_4; clear HO_5; clear BK0; clear HL118_0; clear HB; have HO_3 := n0_; have HO_4 := n1_; have HO_5 := n2_; have BK0 := n3_; have HL118_0 := n4_; have HB := n5_; clear n0_ n1_ n2_ n3_ n4_ n5_; clear hg hw hp_))
    go_roundg k1
    case measure => have := HK1.out; omega
    case rel => exact ⟨(y121), (wrap64 (x18_1 + 1)), aq9, H', ⟨aq40⟩, ⟨aq16⟩, ⟨aq25⟩, ⟨aq13⟩, ⟨aq2⟩⟩
   rw [if_pos c21] at H
   have c21b0 : (((rd_T28 l0 x18_1).f0) == 1) = true := beq_iff_eq.mpr c21
   have c21b1 : (((rd_T28 l0 x18_1).f0) != 1) = false := bne_eq_false_iff_eq.mpr c21
   clear c21
   by_cases c22 : x18_1 < (x3_1.length : Int)
   rotate_left
   ·rw [if_neg c22] at H
    exact absurd H (by simp)
   rw [if_pos c22] at H
   have c22b0 : decide (x18_1 < (x3_1.length : Int)) = true := decide_eq_true c22
   clear c22
   obtain ⟨y120, hy_⟩ : ∃ y_ : List Bool, y_ = (x3_1.set (x18_1 : Int).toNat (((rd_T28 l0 x18_1).f3) == t116)) := ⟨_, rfl⟩
   replace H : (dead_Needless.l0 k1 y120 t108 t111 l0 (l0.length : Int) (wrap64 (x18_1 + 1))) = some r := aq4
   have Ny120 := Aside0.mk hy_
   clear hy_
   have H' := Aside0.mk H
   clear H
   have p114 : 0 ≤ (x18_1 : Int) := of_decide_eq_true aq3
   have q114 : x18_1 < (l0.length : Int) := of_decide_eq_true aq3
   obtain ⟨ad114, e114, hx114_0, hx114_1, hx114_2, hx114_3, hx114_4, hx114_5, hx114_6⟩ := at_T28 HR0.out x18_1 p114 q114
   cases e114
   replace hx114_0 := (HB.out.cell (World.block_lt_of_cell? w _ hx114_0)).trans hx114_0
   replace hx114_1 := (HB.out.cell (World.block_lt_of_cell? w _ hx114_1)).trans hx114_1
   replace hx114_2 := (HB.out.cell (World.block_lt_of_cell? w _ hx114_2)).trans hx114_2
   replace hx114_3 := (HB.out.cell (World.block_lt_of_cell? w _ hx114_3)).trans hx114_3
   replace hx114_4 := (HB.out.cell (World.block_lt_of_cell? w _ hx114_4)).trans hx114_4
   replace hx114_5 := (HB.out.cell (World.block_lt_of_cell? w _ hx114_5)).trans hx114_5
   replace hx114_6 := (HB.out.cell (World.block_lt_of_cell? w _ hx114_6)).trans hx114_6
   replace p114 := eq_true p114
   replace q114 := eq_true q114
   go_wp2_with (first | ((with_reducible refine gate_dst (N := 7) rfl ?_); refine box_event ?hg (N := 7) ?hd (cs := #[.int .i64 0, .int .i64 0, .int .i64 0, .int .i64 0, .int .i64 0, .int .i64 0, .int .i64 0]) (t := 28) ?hr ?_; (case hd => rfl); (case hg => rfl); (case hr => first | (go_simp; done) | (go_simp; rfl)); intro gb0 hg w24 hbox hb; have n0_ := Aside0.mk (Kd.R_below aq16 hb); have n1_ := Aside0.mk (Kd.R_below aq12 hb); have n2_ := Aside0.mk (Kd.S_below aq13 hb); have n3_ := Aside0.mk (below_step aq0 hb); have n4_ := Aside0.mk (hbox); have n5_ := Aside0.mk ((by rw [hg]; exact (below_size aq0) : w.heap.size ≤ gb0)); have n6_ := Aside0.mk ((by rw [hg]; exact (below_size aq0) : w.heap.size ≤ gb0)); clear HO_3; clear HO_4; clear HO_5; clear HB; have HO_3 := n0_; have HO_4 := n1_; have HO_5 := n2_; have HB := n3_; have BK0 := n4_; have GW0 := n5_; have GE0 := n6_; clear n0_ n1_ n2_ n3_ n4_ n5_ n6_; clear hb hbox hg; obtain ⟨hcz25_0, hcz25_1, hcz25_2, hcz25_3, hcz25_4, hcz25_5, hcz25_6, hfz25_0, hfz25_1, hfz25_2, hfz25_3, hfz25_4, hfz25_5, hfz25_6⟩ := czf7 BK0.out) | ((with_reducible refine gate_callee (f := 25) rfl ?_); refine goesL_ (some 24) rfl rfl Tryd.func25 (by kernel_rfl) rfl #[.agg #[.int .i64 ((rd_T28 l0 x18_1).f0), .int .i64 ((rd_T28 l0 x18_1).f1), .int .i64 ((rd_T28 l0 x18_1).f2), .int .i64 ((rd_T28 l0 x18_1).f3), .int .i64 ((rd_T28 l0 x18_1).f4), .int .i64 ((rd_T28 l0 x18_1).f5), .int .i64 ((rd_T28 l0 x18_1).f6)]] rfl aq5 ?_; (with_reducible refine (ins_Def.calls ((rd_T28 l0 x18_1).f0) ((rd_T28 l0 x18_1).f1) ((rd_T28 l0 x18_1).f2) ((rd_T28 l0 x18_1).f3) ((rd_T28 l0 x18_1).f4) ((rd_T28 l0 x18_1).f5) ((rd_T28 l0 x18_1).f6) t116 _ A13.out (GlobOK.step HGL.out aq2)).mono ?_); rintro e w26 ⟨rfl, hb⟩; refine ⟨_, rfl, ?_⟩; replace HO_3 := Aside0.mk (Kd.R_below aq6 hb); replace HO_4 := Aside0.mk (Kd.R_below aq7 hb); replace HO_5 := Aside0.mk (Kd.S_below aq8 hb); replace BK0 := Aside0.mk (blk_below (g := gb0) (o := .cells #[.int .i64 ((rd_T28 l0 x18_1).f0), .int .i64 ((rd_T28 l0 x18_1).f1), .int .i64 ((rd_T28 l0 x18_1).f2), .int .i64 ((rd_T28 l0 x18_1).f3), .int .i64 ((rd_T28 l0 x18_1).f4), .int .i64 ((rd_T28 l0 x18_1).f5), .int .i64 ((rd_T28 l0 x18_1).f6)] 28 (0, 0)) aq1 hb); replace HB := Aside0.mk (below_step aq2 hb); (try clear hb); (try clear hb2); (try clear hk); (try clear hi); obtain ⟨Ao27, co27, eo27⟩ := Kd.R_slice HO_4.out; subst eo27; have p117 : 0 ≤ (x18_1 : Int) := of_decide_eq_true aq3; have q117 : x18_1 < (t108.length : Int) := of_decide_eq_true aq3; obtain ⟨ad117, e117, hx117_0⟩ := Kd.at_bool (Kd.R_reads' HO_4.out).2.2 x18_1 p117 q117; (try rw [← Nbq15.out] at hx117_0); cases e117; replace p117 := eq_true p117; replace q117 := eq_true q117; obtain ⟨Ao28, co28, eo28⟩ := Kd.S_slice HO_5.out; subst eo28; have p118 : 0 ≤ (x18_1 : Int) := of_decide_eq_true aq3; have q118 : x18_1 < (t111.length : Int) := of_decide_eq_true aq3; obtain ⟨ad118, A118_0, c118_0, e118, hx118_0, hl118_0, hi118_0⟩ := at_L5 (Kd.S_reads' HO_5.out).2.2 x18_1 p118 q118; cases e118; obtain ⟨ce118, hce118, hMe118, hcc118⟩ := Kd.S_get HO_5.out [] x18_1 p118 aq38; obtain ⟨ve118_0, rfl, ge118_0⟩ := hMe118; have hv118_0 := hcc118 0 _ rfl; rw [Nat.add_zero, show ((Kd.slice 3 (Kd.int .i64))).sz = 1 from rfl, Nat.mul_one] at hv118_0; replace hv118_0 := Option.some.inj (hv118_0.symm.trans hx118_0); rw [hv118_0] at ge118_0; have HL118_0 := Aside0.mk (show Kd.R (Kd.int .i64) 3 _ _ _ _ (rd_L5 t111 x18_1) from ge118_0); clear hv118_0 ge118_0; clear hcc118 hce118; have HR118_0 := Aside0.mk hi118_0; have HC118_0 := Aside0.mk hl118_0; clear hi118_0 hl118_0; replace p118 := eq_true p118; replace q118 := eq_true q118) | ((with_reducible refine gate_callee (f := 26) rfl ?_); refine goesL_ (some 44) rfl rfl Tryd.func26 (by kernel_rfl) rfl #[.slice A118_0 (rd_L5 t111 x18_1).length c118_0, .int .i64 t116] rfl aq5 ?_; (with_reducible refine (slices_Contains_int_int.calls k1 _ _ (rd_L5 t111 x18_1) t116 true _ ?side1 ?side2 A19.out).mono ?_); (case side1 => repeat (first | exact aq20 | (with_reducible refine Kd.C_alloc ?_ _) | (with_reducible refine Kd.C_drewN ?_ _) | (with_reducible refine Kd.C_drew ?_))); (case side2 => exact HC118_0.out); rintro e w' ⟨rfl, ⟨nd, rfl⟩⟩; refine ⟨_, rfl, ?_⟩; (try (rw [drewN_self w26]; generalize hq_ : World.drewN w26 _ = w26; have n0_ : Aside0 (Kd.R (Kd.int .i64) 3 w26 w.heap.size (fun k_ => some k_ ≠ (.slice (some ad118) t111.length co28 : Value).ownBlock) (.slice A118_0 (rd_L5 t111 x18_1).length c118_0) (rd_L5 t111 x18_1)) := ⟨aq36⟩; have n1_ : Aside0 (Kd.R Kd.bool 4 w26 w.heap.size (fun k_ => some k_ ≠ (.slice (some ad117) t108.length co27 : Value).ownBlock) v106 x3_1) := ⟨aq43⟩; have n2_ : Aside0 (Kd.R Kd.bool 4 w26 w.heap.size (fun k_ => some k_ ≠ (v106 : Value).ownBlock) (.slice (some ad117) t108.length co27) t108) := ⟨aq44⟩; have n3_ : Aside0 (Kd.S (Kd.slice 3 (Kd.int .i64)) 57 w26 w.heap.size (fun _ => True) (.slice (some ad118) t111.length co28) t111) := ⟨aq45⟩; have n4_ : Aside0 (w26.heap[gb0]? = some (.cells #[.int .i64 ((rd_T28 l0 x18_1).f0), .int .i64 ((rd_T28 l0 x18_1).f1), .int .i64 ((rd_T28 l0 x18_1).f2), .int .i64 ((rd_T28 l0 x18_1).f3), .int .i64 ((rd_T28 l0 x18_1).f4), .int .i64 ((rd_T28 l0 x18_1).f5), .int .i64 ((rd_T28 l0 x18_1).f6)] 28 (0, 0))) := ⟨aq41⟩; have n5_ : Aside0 (Below w.heap.size w w26) := ⟨aq33⟩; have n6_ : Aside0 (Kd.C (Kd.int .i64) w26 A118_0 (rd_L5 t111 x18_1).length (rd_L5 t111 x18_1)) := ⟨aq26⟩; clear HL118_0 HO_3 HO_4 HO_5 BK0 HB HR118_0 hq_; have HL118_0 := n0_; have HO_3 := n1_; have HO_4 := n2_; have HO_5 := n3_; have BK0 := n4_; have HB := n5_; have HR118_0 := n6_; clear n0_ n1_ n2_ n3_ n4_ n5_ n6_)); obtain ⟨hcz29_0, hcz29_1, hcz29_2, hcz29_3, hcz29_4, hcz29_5, hcz29_6, hfz29_0, hfz29_1, hfz29_2, hfz29_3, hfz29_4, hfz29_5, hfz29_6⟩ := czf7 BK0.out; have p23 : 0 ≤ (x18_1 : Int) := of_decide_eq_true aq3; have q23 : (x18_1 : Int) < ((x3_1.length : Int) : Int) := of_decide_eq_true aq3; obtain ⟨go23, co23, eo23, gb5, gl23, cl23, HG23⟩ := Kd.R_form HO_3.out (by omega); (first | cases eo23 | (injection eo23 with ea_ en_ ec_; (first | subst ea_ | (injection ea_ with ea_; subst ea_)); subst ec_; clear en_)); have GB23 := Aside0.mk gb5; have GG23 := Aside0.mk HG23; clear gb5 gl23 HG23; obtain ⟨hx23_0, hf23_0⟩ := Kd.R_celln false HO_3.out (x18_1 : Int) p23 q23; replace p23 := eq_true p23; replace q23 := eq_true q23; obtain ⟨hy30_, hz30_⟩ := Kd.R_celln false HO_3.out (x18_1 : Int) (of_decide_eq_true aq3) (of_decide_eq_true aq3); have HP30 := Kd.R_putg HO_3.out (x18_1 : Int) (((rd_T28 l0 x18_1).f3) == t116)) | ((with_reducible refine gate_store (t := 4) (p := 57) rfl ?_); refine store_event (t := 4) (p := 57) (v := ?vo_w31) (w1 := (w26.setCell ⟨go23, (x18_1 : Int).toNat, none⟩ (.bool (((rd_T28 l0 x18_1).f3) == t116)))) ?hg ?ho ?hn ?hr ?_; (case ho => rfl); (case hg => rfl); (case hn => rfl); (case hr => first | (go_simp; done) | (go_simp; rfl)); intro w31 hw; have hg : w26.grownBy w31 (some go23) := (by rw [hw]; exact HP30.2); have hp_ : Kd.R Kd.bool 4 w31 w.heap.size (fun k_ => some k_ ≠ (.slice (some ad117) t108.length co27 : Value).ownBlock) (.slice (some ⟨go23, 0, none⟩) x3_1.length co23) y120 := (by rw [hw, Ny120.out]; exact HP30.1); clear HP30; have n0_ := Aside0.mk (hp_); have n1_ := Aside0.mk (Kd.R_after (v := (.slice (some ⟨go23, 0, none⟩) x3_1.length co23)) (v1 := (.slice (some ⟨go23, 0, none⟩) x3_1.length co23)) (ok := (fun _ => True)) aq24 hg (.inl rfl)); have n2_ := Aside0.mk (Kd.S_over' (v := (.slice (some ⟨go23, 0, none⟩) x3_1.length co23)) aq13 (Kd.R_typed HO_3.out) (by decide) hg); have n3_ := Aside0.mk (blk_grown (g := gb0) (o := .cells #[.int .i64 ((rd_T28 l0 x18_1).f0), .int .i64 ((rd_T28 l0 x18_1).f1), .int .i64 ((rd_T28 l0 x18_1).f2), .int .i64 ((rd_T28 l0 x18_1).f3), .int .i64 ((rd_T28 l0 x18_1).f4), .int .i64 ((rd_T28 l0 x18_1).f5), .int .i64 ((rd_T28 l0 x18_1).f6)] 28 (0, 0)) aq10 hg (Kd.R_ne HO_3.out BK0.out (by decide))); have n4_ := Aside0.mk (Kd.R_over' (v := (.slice (some ⟨go23, 0, none⟩) x3_1.length co23)) aq46 (Kd.R_typed HO_3.out) (by decide) hg); have n5_ := Aside0.mk ((by rw [hw]; exact below_set (HB.out) GB23.out : Below w.heap.size w w31)); clear HO_3; clear HO_4; clear HO_5; clear BK0; clear HL118_0; clear HB; have HO_3 := n0_; have HO_4 := n1_; have HO_5 := n2_; have BK0 := n3_; have HL118_0 := n4_; have HB := n5_; clear n0_ n1_ n2_ n3_ n4_ n5_; clear hg hw hp_))
   go_roundg k1
   case measure => have := HK1.out; omega
   case rel => exact ⟨(y120), (wrap64 (x18_1 + 1)), aq9, H', ⟨aq40⟩, ⟨aq16⟩, ⟨aq25⟩, ⟨aq13⟩, ⟨aq2⟩⟩
/-! ### palingref13_Same: function 12 -/
def palingref13_Same.l0 : Nat → List (S28) → List (S28) → Int → Option (Bool)
  | 0, _, _, _ => none
  | k + 1, x0, x1, x5 => if x5 < (x0.length : Int) then (if 0 ≤ x5 then (if x5 < (x1.length : Int) then (if (!(((rd_T28 x0 x5).f0) == ((rd_T28 x1 x5).f0)) || (!(((rd_T28 x0 x5).f1) == ((rd_T28 x1 x5).f1)) || (!(((rd_T28 x0 x5).f2) == ((rd_T28 x1 x5).f2)) || (!(((rd_T28 x0 x5).f3) == ((rd_T28 x1 x5).f3)) || (!(((rd_T28 x0 x5).f4) == ((rd_T28 x1 x5).f4)) || (!(((rd_T28 x0 x5).f5) == ((rd_T28 x1 x5).f5)) || (!(((rd_T28 x0 x5).f6) == ((rd_T28 x1 x5).f6))))))))) = true then (some false) else (palingref13_Same.l0 k x0 x1 (wrap64 (x5 + 1)))) else (none)) else (none)) else (some true)
def palingref13_Same.f (k : Nat) (l0 : List (S28)) (l1 : List (S28)) : Option (Bool) := if (l0.length : Int) = (l1.length : Int) then (palingref13_Same.l0 k l0 l1 0) else (none)
theorem palingref13_Same.mono_l : ∀ k, (∀ y0 y1 y2, LeO (palingref13_Same.l0 k y0 y1 y2) (palingref13_Same.l0 (k + 1) y0 y1 y2))
  | 0 => fun _ _ _ r h => by simp [palingref13_Same.l0] at h
  | k + 1 => by
    have ih0 := palingref13_Same.mono_l k
    intros <;> unfold palingref13_Same.l0 <;> repeat' (first | (with_reducible first | exact ih0 _ _ _ | exact LeO.refl _ | exact LeO.none _ | refine LeO.ite ?_ ?_ | refine LeO.bind ?_ (fun _ => ?_)) | exact ih0 _ _ _ | exact LeO.none _ | refine LeO.ite ?_ ?_ | refine LeO.bind ?_ (fun _ => ?_))
theorem palingref13_Same.mono : ∀ a0 a1 k, LeO (palingref13_Same.f k a0 a1) (palingref13_Same.f (k + 1) a0 a1) := by
 intro a0 a1 k
 have ih0 := palingref13_Same.mono_l k
 unfold palingref13_Same.f
 repeat' (first | (with_reducible first | exact ih0 _ _ _ | exact LeO.refl _ | exact LeO.none _ | refine LeO.ite ?_ ?_ | refine LeO.bind ?_ (fun _ => ?_)) | exact ih0 _ _ _ | exact LeO.none _ | refine LeO.ite ?_ ?_ | refine LeO.bind ?_ (fun _ => ?_))
set_option maxHeartbeats 8000000 in
set_option maxRecDepth 100000 in
theorem palingref13_Same.calls (k : Nat) (A0 : Option Addr) (c0 : Nat) (l0 : List (S28)) (A1 : Option Addr) (c1 : Nat) (l1 : List (S28)) (r : Bool) (w : World) (hr0 : Kd.C k28 w A0 l0.length l0) (hc0 : l0.length ≤ c0) (hr1 : Kd.C k28 w A1 l1.length l1) (hc1 : l1.length ≤ c1) (h : palingref13_Same.f k l0 l1 = some r) :
    Calls Tryd.prog 12 #[.slice A0 l0.length c0, .slice A1 l1.length c1] w fun e w' => e = .returned (.bool r) ∧ Drawn0 w w' := by
 have hu28 := Tryd.underlying28
 have HR0 := Aside0.mk hr0
 have HC0 := Aside0.mk hc0
 clear hr0 hc0
 have HR1 := Aside0.mk hr1
 have HC1 := Aside0.mk hc1
 clear hr1 hc1
 have H : (if (l0.length : Int) = (l1.length : Int) then (palingref13_Same.l0 k l0 l1 0) else (none)) = some r := h
 clear h
 by_cases c3 : (l0.length : Int) = (l1.length : Int)
 rotate_left
 ·rw [if_neg c3] at H
  have c3b0 : ((l0.length : Int) == (l1.length : Int)) = false := beq_eq_false_iff_ne.mpr c3
  have c3b1 : ((l0.length : Int) != (l1.length : Int)) = true := bne_iff_ne.mpr c3
  have c3b2 : (l0.length == l1.length) = false := by first | simpa using c3 | (simp at c3 ⊢; omega)
  exact absurd H (by simp)
 rw [if_pos c3] at H
 have c3b0 : ((l0.length : Int) == (l1.length : Int)) = true := beq_iff_eq.mpr c3
 have c3b1 : ((l0.length : Int) != (l1.length : Int)) = false := bne_eq_false_iff_eq.mpr c3
 have c3b2 : (l0.length == l1.length) = true := by first | simpa using c3 | (simp at c3 ⊢; omega)
 clear c3
 have H' := Aside0.mk H
 clear H
 go_enter Tryd.func12, Tryd.ntmps12
 go_wp2
 repeat (go_quiet (fail); try go_wp2)
 go_loopg [5] k (fun kq v5 w' => ∃ (x5_1 : Int), v5 = .int .i64 x5_1 ∧ Aside0 (palingref13_Same.l0 kq l0 l1 x5_1 = some r) ∧ Aside0 (kq ≤ k) ∧ Drawn0 w w')
 case atStart => exact ⟨(0), aq9, H', ⟨Nat.le_refl _⟩, aq15⟩
 case round =>
  clear H'
  obtain ⟨x5_1, rfl, HA, HK1, ⟨m1, rfl⟩⟩ := hrel
  cases gk with
  | zero => exact absurd HA.out (by simp [palingref13_Same.l0])
  | succ k1 =>
   have H := HA.out
   clear HA
   simp only [palingref13_Same.l0] at H
   by_cases c4 : x5_1 < (l0.length : Int)
   rotate_left
   ·rw [if_neg c4] at H
    have c4b0 : decide (x5_1 < (l0.length : Int)) = false := decide_eq_false c4
    clear c4
    obtain rfl := Option.some.inj H
    go_wp2
    repeat (go_quiet (fail); try go_wp2)
    go_ret
    exact ⟨aq9, aq15⟩
   rw [if_pos c4] at H
   have c4b0 : decide (x5_1 < (l0.length : Int)) = true := decide_eq_true c4
   clear c4
   by_cases c5 : 0 ≤ x5_1
   rotate_left
   ·rw [if_neg c5] at H
    exact absurd H (by simp)
   rw [if_pos c5] at H
   have c5b0 : decide (0 ≤ x5_1) = true := decide_eq_true c5
   clear c5
   by_cases c6 : x5_1 < (l1.length : Int)
   rotate_left
   ·rw [if_neg c6] at H
    exact absurd H (by simp)
   rw [if_pos c6] at H
   have c6b0 : decide (x5_1 < (l1.length : Int)) = true := decide_eq_true c6
   clear c6
   by_cases c7 : (!(((rd_T28 l0 x5_1).f0) == ((rd_T28 l1 x5_1).f0)) || (!(((rd_T28 l0 x5_1).f1) == ((rd_T28 l1 x5_1).f1)) || (!(((rd_T28 l0 x5_1).f2) == ((rd_T28 l1 x5_1).f2)) || (!(((rd_T28 l0 x5_1).f3) == ((rd_T28 l1 x5_1).f3)) || (!(((rd_T28 l0 x5_1).f4) == ((rd_T28 l1 x5_1).f4)) || (!(((rd_T28 l0 x5_1).f5) == ((rd_T28 l1 x5_1).f5)) || (!(((rd_T28 l0 x5_1).f6) == ((rd_T28 l1 x5_1).f6))))))))) = true
   ·rw [if_pos c7] at H
    have c7b0 : (!(((rd_T28 l0 x5_1).f0) == ((rd_T28 l1 x5_1).f0)) || (!(((rd_T28 l0 x5_1).f1) == ((rd_T28 l1 x5_1).f1)) || (!(((rd_T28 l0 x5_1).f2) == ((rd_T28 l1 x5_1).f2)) || (!(((rd_T28 l0 x5_1).f3) == ((rd_T28 l1 x5_1).f3)) || (!(((rd_T28 l0 x5_1).f4) == ((rd_T28 l1 x5_1).f4)) || (!(((rd_T28 l0 x5_1).f5) == ((rd_T28 l1 x5_1).f5)) || (!(((rd_T28 l0 x5_1).f6) == ((rd_T28 l1 x5_1).f6))))))))) = true := c7
    clear c7
    obtain rfl := Option.some.inj H
    have p125 : 0 ≤ (x5_1 : Int) := of_decide_eq_true aq3
    have q125 : x5_1 < (l0.length : Int) := of_decide_eq_true aq3
    obtain ⟨ad125, e125, hx125_0, hx125_1, hx125_2, hx125_3, hx125_4, hx125_5, hx125_6⟩ := at_T28 HR0.out x5_1 p125 q125
    cases e125
    replace p125 := eq_true p125
    replace q125 := eq_true q125
    have p126 : 0 ≤ (x5_1 : Int) := of_decide_eq_true aq3
    have q126 : x5_1 < (l1.length : Int) := of_decide_eq_true aq3
    obtain ⟨ad126, e126, hx126_0, hx126_1, hx126_2, hx126_3, hx126_4, hx126_5, hx126_6⟩ := at_T28 HR1.out x5_1 p126 q126
    cases e126
    replace p126 := eq_true p126
    replace q126 := eq_true q126
    go_wp2
    repeat (go_quiet (fail); try go_wp2)
    go_ret
    exact ⟨aq9, aq15⟩
   rw [if_neg c7] at H
   have c7b0 : (!(((rd_T28 l0 x5_1).f0) == ((rd_T28 l1 x5_1).f0)) || (!(((rd_T28 l0 x5_1).f1) == ((rd_T28 l1 x5_1).f1)) || (!(((rd_T28 l0 x5_1).f2) == ((rd_T28 l1 x5_1).f2)) || (!(((rd_T28 l0 x5_1).f3) == ((rd_T28 l1 x5_1).f3)) || (!(((rd_T28 l0 x5_1).f4) == ((rd_T28 l1 x5_1).f4)) || (!(((rd_T28 l0 x5_1).f5) == ((rd_T28 l1 x5_1).f5)) || (!(((rd_T28 l0 x5_1).f6) == ((rd_T28 l1 x5_1).f6))))))))) = false := by simpa using c7
   clear c7
   have H' := Aside0.mk H
   clear H
   have p125 : 0 ≤ (x5_1 : Int) := of_decide_eq_true aq3
   have q125 : x5_1 < (l0.length : Int) := of_decide_eq_true aq3
   obtain ⟨ad125, e125, hx125_0, hx125_1, hx125_2, hx125_3, hx125_4, hx125_5, hx125_6⟩ := at_T28 HR0.out x5_1 p125 q125
   cases e125
   replace p125 := eq_true p125
   replace q125 := eq_true q125
   have p126 : 0 ≤ (x5_1 : Int) := of_decide_eq_true aq3
   have q126 : x5_1 < (l1.length : Int) := of_decide_eq_true aq3
   obtain ⟨ad126, e126, hx126_0, hx126_1, hx126_2, hx126_3, hx126_4, hx126_5, hx126_6⟩ := at_T28 HR1.out x5_1 p126 q126
   cases e126
   replace p126 := eq_true p126
   replace q126 := eq_true q126
   go_wp2
   repeat (go_quiet (fail); try go_wp2)
   go_roundg k1
   case measure => have := HK1.out; omega
   case rel => exact ⟨(wrap64 (x5_1 + 1)), aq9, H', ⟨aq40⟩, aq15⟩
end Go.Proofs.YtdopacgaklaaeaaDoor.PDeadOnce
