-- Written by print2.py over the kit's printer. Not trusted: Lean checks it.
import Derived.Test.YtpbhfpbfmpocdaaDoorPSpillNonehqq
import Derived.Test.YtpbhfpbfmpocdaaDoorPSpillNonehmid
import Derived.Test.YtpbhfpbfmpocdaaDoorPSpillNonex0
import Derived.Test.YtpbhfpbfmpocdaaDoorPSpillNonex7
import Derived.Test.YtpbhfpbfmpocdaaDoorPSpillNonex8
import Derived.Test.YtpbhfpbfmpocdaaDoorPSpillNonex10
namespace Go.Proofs.YtpbhfpbfmpocdaaDoor.PSpillNone
open Go.RowKit Go.Proofs.YtpbhfpbfmpocdaaDoorW.PrintWords Go.Proofs.YtpbhfpbfmpocdaaDoorW.PrintLast Go.Proofs.YtpbhfpbfmpocdaaDoorW.PrintMore
attribute [local go_sem] max2_int min2_int max_two min_two max_three min_three max_four min_four   -- for this text's walks alone
set_option linter.unusedVariables false
set_option linter.unusedSimpArgs false

/-! ### palingref15_Behind: function 34 -/
mutual
def palingref15_Behind.l0 : Nat → List (S48) → List (List Int) → List (List Int) → List Int → Int → Option ((List (List Int)))
  | 0, _, _, _, _, _ => none
  | k + 1, x0, x3, x4, x5, x6 => if x6 < (x0.length : Int) then ((palingref14_Next.f k x0 x6).bind fun t372 => (palingref15_Behind.l1 k x0 x3 x4 x5 x6 t372 0)) else (some x3)
def palingref15_Behind.l1 : Nat → List (S48) → List (List Int) → List (List Int) → List Int → Int → List Int → Int → Option ((List (List Int)))
  | 0, _, _, _, _, _, _, _ => none
  | k + 1, x0, x3, x4, x5, x6, x7, x8 => if x8 < (x5.length : Int) then (palingref15_Behind.l2 k x0 x3 x4 x5 x6 x7 x8 false 0) else (palingref15_Behind.l0 k x0 x3 x4 x5 (wrap64 (x6 + 1)))
def palingref15_Behind.l2 : Nat → List (S48) → List (List Int) → List (List Int) → List Int → Int → List Int → Int → Bool → Int → Option ((List (List Int)))
  | 0, _, _, _, _, _, _, _, _, _ => none
  | k + 1, x0, x3, x4, x5, x6, x7, x8, x9, x10 => if x10 < (x7.length : Int) then (if x9 = true then (palingref15_Behind.l2 k x0 x3 x4 x5 x6 x7 x8 true (wrap64 (x10 + 1))) else (if 0 ≤ x10 then (if 0 ≤ (rd x7 x10) then (if (rd x7 x10) < (x4.length : Int) then (if 0 ≤ x8 then (if x8 < (x5.length : Int) then ((palingref15_has.f k (rd_L3 x4 (rd x7 x10)) (rd x5 x8)).bind fun t378 => (palingref15_Behind.l2 k x0 x3 x4 x5 x6 x7 x8 t378 (wrap64 (x10 + 1)))) else (none)) else (none)) else (none)) else (none)) else (none))) else (if x9 = true then (if 0 ≤ x6 then (if x6 < (x3.length : Int) then (if 0 ≤ x8 then (if x8 < (x5.length : Int) then (if (rd_L3 x3 x6).length < 17592186044416 then (palingref15_Behind.l1 k x0 (x3.set (x6 : Int).toNat ((rd_L3 x3 x6) ++ [rd x5 x8])) x4 x5 x6 x7 (wrap64 (x8 + 1))) else (none)) else (none)) else (none)) else (none)) else (none)) else (palingref15_Behind.l1 k x0 x3 x4 x5 x6 x7 (wrap64 (x8 + 1))))
end
def palingref15_Behind.f (k : Nat) (l0 : List (S48)) : Option ((List (List Int))) := if 0 ≤ (l0.length : Int) then (if ((l0.length : Int) : Int).toNat ≤ 11728124029610 then ((palingref15_Ahead.f k l0).bind fun t366 => ((palingref15_Regs.f k l0).bind fun t369 => (palingref15_Behind.l0 k l0 (List.replicate ((l0.length : Int) : Int).toNat []) t366 t369 0))) else (none)) else (none)
theorem palingref15_Behind.mono_l : ∀ k, (∀ y0 y1 y2 y3 y4, LeO (palingref15_Behind.l0 k y0 y1 y2 y3 y4) (palingref15_Behind.l0 (k + 1) y0 y1 y2 y3 y4)) ∧ (∀ y0 y1 y2 y3 y4 y5 y6, LeO (palingref15_Behind.l1 k y0 y1 y2 y3 y4 y5 y6) (palingref15_Behind.l1 (k + 1) y0 y1 y2 y3 y4 y5 y6)) ∧ (∀ y0 y1 y2 y3 y4 y5 y6 y7 y8, LeO (palingref15_Behind.l2 k y0 y1 y2 y3 y4 y5 y6 y7 y8) (palingref15_Behind.l2 (k + 1) y0 y1 y2 y3 y4 y5 y6 y7 y8))
  | 0 => ⟨fun _ _ _ _ _ r h => by simp [palingref15_Behind.l0] at h, fun _ _ _ _ _ _ _ r h => by simp [palingref15_Behind.l1] at h, fun _ _ _ _ _ _ _ _ _ r h => by simp [palingref15_Behind.l2] at h⟩
  | k + 1 => by
    obtain ⟨ih0, ih1, ih2⟩ := palingref15_Behind.mono_l k
    refine ⟨?_, ?_, ?_⟩ <;> intros <;> (first | unfold palingref15_Behind.l0 | unfold palingref15_Behind.l1 | unfold palingref15_Behind.l2) <;> repeat' (first | (with_reducible first | exact ih0 _ _ _ _ _ | exact ih1 _ _ _ _ _ _ _ | exact ih2 _ _ _ _ _ _ _ _ _ | exact palingref14_Next.mono _ _ _ | exact palingref15_Ahead.mono _ _ | exact palingref15_Regs.mono _ _ | exact palingref15_has.mono _ _ _ | exact LeO.refl _ | exact LeO.none _ | refine LeO.ite ?_ ?_ | refine LeO.bind ?_ (fun _ => ?_)) | exact ih0 _ _ _ _ _ | exact ih1 _ _ _ _ _ _ _ | exact ih2 _ _ _ _ _ _ _ _ _ | exact palingref14_Next.mono _ _ _ | exact palingref15_Ahead.mono _ _ | exact palingref15_Regs.mono _ _ | exact palingref15_has.mono _ _ _ | exact LeO.none _ | refine LeO.ite ?_ ?_ | refine LeO.bind ?_ (fun _ => ?_))
theorem palingref15_Behind.mono : ∀ a0 k, LeO (palingref15_Behind.f k a0) (palingref15_Behind.f (k + 1) a0) := by
 intro a0 k
 obtain ⟨ih0, ih1, ih2⟩ := palingref15_Behind.mono_l k
 unfold palingref15_Behind.f
 repeat' (first | (with_reducible first | exact ih0 _ _ _ _ _ | exact ih1 _ _ _ _ _ _ _ | exact ih2 _ _ _ _ _ _ _ _ _ | exact palingref14_Next.mono _ _ _ | exact palingref15_Ahead.mono _ _ | exact palingref15_Regs.mono _ _ | exact palingref15_has.mono _ _ _ | exact LeO.refl _ | exact LeO.none _ | refine LeO.ite ?_ ?_ | refine LeO.bind ?_ (fun _ => ?_)) | exact ih0 _ _ _ _ _ | exact ih1 _ _ _ _ _ _ _ | exact ih2 _ _ _ _ _ _ _ _ _ | exact palingref14_Next.mono _ _ _ | exact palingref15_Ahead.mono _ _ | exact palingref15_Regs.mono _ _ | exact palingref15_has.mono _ _ _ | exact LeO.none _ | refine LeO.ite ?_ ?_ | refine LeO.bind ?_ (fun _ => ?_))
def palingref15_Behind.T15 : Bool × List (List Nat × List Nat) := (true, [([], []), ([0], [0]), ([1], [1]), ([1], [1]), ([1], [1]), ([3, 4, 1], [1, 3, 4]), ([5, 1], [1, 5]), ([2, 6, 1], [1, 2, 6]), ([7, 1], [1, 7]), ([1], [1]), ([1], [1]), ([9, 10, 1], [1, 9, 10]), ([11, 1], [1, 11]), ([8, 12, 1, 1], [1, 8, 12]), ([1, 13], [1, 13]), ([14, 13, 0, 1, 2, 3, 4, 5, 6, 7, 8, 9, 10, 11, 12, 13, 14], [0, 14])])
def palingref15_Behind.B15 : List Nat := [0, 1, 3, 3, 3, 27, 59, 127, 255, 3, 3, 1539, 3587, 8191, 16383, 32767]
theorem palingref15_Behind.tab15 : rtab .any (opsOf Tryd.f34 15) = palingref15_Behind.T15 := by kernel_rfl
theorem palingref15_Behind.bits15 : waitsOk palingref15_Behind.T15.2 palingref15_Behind.B15 = true := by kernel_rfl
def palingref15_Behind.T17 : Bool × List (List Nat × List Nat) := (true, [([], []), ([], []), ([], []), ([], []), ([2, 3], [2, 3]), ([4], [4]), ([], []), ([], []), ([6, 7], [6, 7]), ([8], [8]), ([9], [9]), ([5, 10], [5, 10]), ([0, 1, 0, 1, 2, 3, 4, 5, 6, 7, 8, 9, 10, 11], [0, 1]), ([12, 11, 11, 0, 1, 2, 3, 4, 5, 6, 7, 8, 9, 10, 11], [11, 12])])
def palingref15_Behind.B17 : List Nat := [0, 0, 0, 0, 12, 28, 0, 0, 192, 448, 960, 2044, 4095, 8191]
theorem palingref15_Behind.tab17 : rtab .any (opsOf Tryd.f34 17) = palingref15_Behind.T17 := by kernel_rfl
theorem palingref15_Behind.bits17 : waitsOk palingref15_Behind.T17.2 palingref15_Behind.B17 = true := by kernel_rfl
set_option maxHeartbeats 8000000 in
set_option maxRecDepth 100000 in
theorem palingref15_Behind.calls (k : Nat) (A0 : Option Addr) (c0 : Nat) (l0 : List (S48)) (r : List (List Int)) (w : World) (hr0 : Kd.C k48 w A0 l0.length l0) (hc0 : l0.length ≤ c0) (h : palingref15_Behind.f k l0 = some r) :
    Calls Tryd.prog 34 #[.slice A0 l0.length c0] w fun e w' => ∃ v0_ : Value, e = .returned (v0_) ∧ Kd.S (Kd.slice 3 (Kd.int .i64)) 23 w' w.heap.size (fun _ => True) v0_ r ∧ Below w.heap.size w w' := by
 have HR0 := Aside0.mk hr0
 have HC0 := Aside0.mk hc0
 clear hr0 hc0
 have HB := Aside0.mk (Below.refl w.heap.size w)
 have H : (if 0 ≤ (l0.length : Int) then (if ((l0.length : Int) : Int).toNat ≤ 11728124029610 then ((palingref15_Ahead.f k l0).bind fun t366 => ((palingref15_Regs.f k l0).bind fun t369 => (palingref15_Behind.l0 k l0 (List.replicate ((l0.length : Int) : Int).toNat []) t366 t369 0))) else (none)) else (none)) = some r := h
 clear h
 by_cases c2 : 0 ≤ (l0.length : Int)
 rotate_left
 ·rw [if_neg c2] at H
  exact absurd H (by simp)
 rw [if_pos c2] at H
 have c2b0 := eq_true c2
 have c2b1 : decide (0 ≤ (l0.length : Int)) = true := decide_eq_true c2
 clear c2
 by_cases c3 : ((l0.length : Int) : Int).toNat ≤ 11728124029610
 rotate_left
 ·rw [if_neg c3] at H
  exact absurd H (by simp)
 rw [if_pos c3] at H
 have c3b0 := eq_true c3
 have c3b1 : decide (((l0.length : Int) : Int).toNat ≤ 11728124029610) = true := decide_eq_true c3
 clear c3
 obtain ⟨y363, hy_⟩ : ∃ y_ : List (List Int), y_ = (List.replicate ((l0.length : Int) : Int).toNat []) := ⟨_, rfl⟩
 replace H : ((palingref15_Ahead.f k l0).bind fun t366 => ((palingref15_Regs.f k l0).bind fun t369 => (palingref15_Behind.l0 k l0 y363 t366 t369 0))) = some r := aq3
 have Ny363 := Aside0.mk hy_
 clear hy_
 obtain ⟨t366, A4, H⟩ := bS_ H
 obtain ⟨t369, A5, H⟩ := bS_ H
 have H' := Aside0.mk H
 clear H
 go_enter Tryd.func34, Tryd.ntmps34
 go_wp2_with (first | ((with_reducible refine gate_dst (N := 13) rfl ?_); refine Kd.S_make (Kd.slice 3 (Kd.int .i64)) _ 23 rfl (N := 13) rfl 72 _ _ rfl (l0.length : Int) rfl rfl Tryd.underlying72 (.slice none 0 0) 24 info23 rfl (by decide) (by omega) [] (ok := fun _ => True) (okp := fun _ => True) ⟨_, rfl, Kd.R_nil _ _ _ _ _⟩ (fun _ hk => hk) trivial (of_decide_eq_true aq2) (Nat.le_trans (Nat.mul_le_mul_right _ (of_decide_eq_true aq2 : (l0.length : Int).toNat ≤ 11728124029610)) (by omega)) (Below.refl _ _) (Nat.le_refl _) ?_; intro v364 w6 ho7 hb hg_ hnew_; clear hg_ hnew_; (first | rw [← Ny363.out] at ho7 | (simp only [Int.reduceToNat] at ho7; rw [← Ny363.out] at ho7)); have HO365 := Aside0.mk (Kd.S_lower ho7 (below_size aq0)); replace HB := Aside0.mk (below_step aq0 hb); clear hb ho7) | ((with_reducible refine gate_callee (f := 33) rfl ?_); refine goesL_ (some 15) rfl rfl Tryd.func33 (by kernel_rfl) rfl #[.slice A0 l0.length c0] rfl aq8 ?_; (with_reducible refine (palingref15_Ahead.calls k _ _ l0 t366 _ ?side1 ?side2 A4.out).mono ?_); (case side1 => repeat (first | exact (Kd.C_below HR0.out HB.out) | (with_reducible refine Kd.C_alloc ?_ _) | (with_reducible refine Kd.C_drewN ?_ _) | (with_reducible refine Kd.C_drew ?_))); (case side2 => exact HC0.out); rintro e w8 ⟨v367, rfl, ho0, hb⟩; refine ⟨_, rfl, ?_⟩; obtain ⟨MID, ha_, hc_⟩ := mid_split (by (with_reducible repeat (first | apply Kd.S_alloc | apply Kd.S_drewN | apply Kd.S_drew)); exact HO365.out) ho0 hb; replace HO365 := Aside0.mk ha_; have HO368 := Aside0.mk (Kd.S_lower hc_ (below_size aq0)); replace HB := Aside0.mk (below_step aq0 hb); (try clear hb); (try clear hb2); (try clear hk); (try clear hi); (try clear ho0)) | ((with_reducible refine gate_callee (f := 35) rfl ?_); refine goesL_ (some 17) rfl rfl Tryd.func35 (by kernel_rfl) rfl #[.slice A0 l0.length c0] rfl aq8 ?_; (with_reducible refine (palingref15_Regs.calls k _ _ l0 t369 _ ?side1 ?side2 A5.out).mono ?_); (case side1 => repeat (first | exact (Kd.C_below HR0.out HB.out) | (with_reducible refine Kd.C_alloc ?_ _) | (with_reducible refine Kd.C_drewN ?_ _) | (with_reducible refine Kd.C_drew ?_))); (case side2 => exact HC0.out); rintro e w9 ⟨v370, rfl, ho0, hb⟩; refine ⟨_, rfl, ?_⟩; replace HO365 := Aside0.mk (Kd.S_elder' (by (with_reducible repeat (first | apply Kd.S_alloc | apply Kd.S_drewN | apply Kd.S_drew)); exact HO365.out) (Kd.R_base ho0) hb); replace HO368 := Aside0.mk (Kd.S_elder' (by (with_reducible repeat (first | apply Kd.S_alloc | apply Kd.S_drewN | apply Kd.S_drew)); exact HO368.out) (Kd.R_base ho0) hb); have HO371 := Aside0.mk (Kd.R_lower ho0 (below_size aq0)); replace HB := Aside0.mk (below_step aq0 hb); (try clear hb); (try clear hb2); (try clear hk); (try clear hi); (try clear ho0)))
 go_loopg [6] k (fun kq v6 w' => ∃ (MID : Nat → Prop) (x3_1 : List (List Int)) (x6_1 : Int), v6 = .int .i64 x6_1 ∧ Aside0 (palingref15_Behind.l0 kq l0 x3_1 t366 t369 x6_1 = some r) ∧ Aside0 (kq ≤ k) ∧ Aside0 (Kd.S (Kd.slice 3 (Kd.int .i64)) 23 w' w.heap.size (fun k_ => (some k_ ≠ (v367 : Value).ownBlock ∧ ¬ MID k_) ∧ some k_ ≠ (v370 : Value).ownBlock) v364 x3_1) ∧ Aside0 (Kd.S (Kd.slice 3 (Kd.int .i64)) 23 w' w.heap.size (fun k_ => (some k_ ≠ (v364 : Value).ownBlock ∧ MID k_) ∧ some k_ ≠ (v370 : Value).ownBlock) v367 t366) ∧ Aside0 (Kd.R (Kd.int .i64) 3 w' w.heap.size (fun _ => True) v370 t369) ∧ Aside0 (Below w.heap.size w w'))
 case atStart => exact ⟨MID, (y363), (0), aq7, H', ⟨Nat.le_refl _⟩, ⟨by (with_reducible repeat (first | apply Kd.S_alloc | apply Kd.S_drewN | apply Kd.S_drew)); exact Kd.S_mono HO365.out (fun _ hk => ⟨hk.1.2, hk.2⟩)⟩, ⟨by (with_reducible repeat (first | apply Kd.S_alloc | apply Kd.S_drewN | apply Kd.S_drew)); exact Kd.S_mono HO368.out (fun _ hk => ⟨hk.1.2, hk.2⟩)⟩, ⟨by (with_reducible repeat (first | apply Kd.R_alloc | apply Kd.R_drewN | apply Kd.R_drew)); exact HO371.out⟩, ⟨aq0⟩⟩
 case round =>
  clear H'
  obtain ⟨MID, x3_1, x6_1, rfl, HA, HK1, HO_3, HO_4, HO_5, HB⟩ := hrel
  cases gk with
  | zero => exact absurd HA.out (by simp [palingref15_Behind.l0])
  | succ k1 =>
   have H := HA.out
   clear HA
   simp only [palingref15_Behind.l0] at H
   by_cases c10 : x6_1 < (l0.length : Int)
   rotate_left
   ·rw [if_neg c10] at H
    have c10b0 : decide (x6_1 < (l0.length : Int)) = false := decide_eq_false c10
    clear c10
    obtain rfl := Option.some.inj H
    go_wp2
    go_ret
    exact ⟨_, aq13, by (with_reducible repeat (first | apply Kd.S_alloc | apply Kd.S_drewN | apply Kd.S_drew)); exact Kd.S_mono HO_3.out (fun _ hk => trivial), aq0⟩
   rw [if_pos c10] at H
   have c10b0 : decide (x6_1 < (l0.length : Int)) = true := decide_eq_true c10
   clear c10
   obtain ⟨t372, A11, H⟩ := bS_ H
   have H' := Aside0.mk H
   clear H
   go_wp2_with (first | ((with_reducible refine gate_callee (f := 48) rfl ?_); refine goesL_ (some 26) rfl rfl Tryd.func48 (by kernel_rfl) rfl #[.slice A0 l0.length c0, .int .i64 x6_1] rfl aq8 ?_; (with_reducible refine (palingref14_Next.calls k1 _ _ l0 x6_1 t372 _ ?side1 ?side2 A11.out).mono ?_); (case side1 => repeat (first | exact (Kd.C_below HR0.out HB.out) | (with_reducible refine Kd.C_alloc ?_ _) | (with_reducible refine Kd.C_drewN ?_ _) | (with_reducible refine Kd.C_drew ?_))); (case side2 => exact HC0.out); rintro e w12 ⟨v373, rfl, ho0, hb⟩; refine ⟨_, rfl, ?_⟩; replace HO_3 := Aside0.mk (Kd.S_elder' aq38 (Kd.R_base ho0) hb); replace HO_4 := Aside0.mk (Kd.S_elder' aq19 (Kd.R_base ho0) hb); have HO374 := Aside0.mk (Kd.R_lower (Kd.R_new' ho0 (Kd.R_lt aq10)) (below_size aq0)); replace HO_5 := Aside0.mk (Kd.R_elder' aq10 (Kd.R_base ho0) hb); replace HB := Aside0.mk (below_step aq0 hb); (try clear hb); (try clear hb2); (try clear hk); (try clear hi); (try clear ho0)))
   go_loopg [8] k1 (fun kq v8 w' => ∃ (MID : Nat → Prop) (x3_2 : List (List Int)) (x8_2 : Int), v8 = .int .i64 x8_2 ∧ Aside0 (palingref15_Behind.l1 kq l0 x3_2 t366 t369 x6_1 t372 x8_2 = some r) ∧ Aside0 (kq ≤ k1) ∧ Aside0 (Kd.S (Kd.slice 3 (Kd.int .i64)) 23 w' w.heap.size (fun k_ => (some k_ ≠ (v367 : Value).ownBlock ∧ ¬ MID k_) ∧ some k_ ≠ (v370 : Value).ownBlock ∧ some k_ ≠ (v373 : Value).ownBlock) v364 x3_2) ∧ Aside0 (Kd.S (Kd.slice 3 (Kd.int .i64)) 23 w' w.heap.size (fun k_ => (some k_ ≠ (v364 : Value).ownBlock ∧ MID k_) ∧ some k_ ≠ (v370 : Value).ownBlock ∧ some k_ ≠ (v373 : Value).ownBlock) v367 t366) ∧ Aside0 (Kd.R (Kd.int .i64) 3 w' w.heap.size (fun k_ => some k_ ≠ (v373 : Value).ownBlock) v370 t369) ∧ Aside0 (Kd.R (Kd.int .i64) 3 w' w.heap.size (fun k_ => some k_ ≠ (v370 : Value).ownBlock) v373 t372) ∧ Aside0 (Below w.heap.size w w'))
   case atStart => exact ⟨MID, (x3_1), (0), aq7, H', ⟨Nat.le_refl _⟩, ⟨by (with_reducible repeat (first | apply Kd.S_alloc | apply Kd.S_drewN | apply Kd.S_drew)); exact Kd.S_mono HO_3.out (fun _ hk => ⟨hk.1.1, ⟨hk.1.2, hk.2⟩⟩)⟩, ⟨by (with_reducible repeat (first | apply Kd.S_alloc | apply Kd.S_drewN | apply Kd.S_drew)); exact Kd.S_mono HO_4.out (fun _ hk => ⟨hk.1.1, ⟨hk.1.2, hk.2⟩⟩)⟩, ⟨aq48⟩, ⟨by (with_reducible repeat (first | apply Kd.R_alloc | apply Kd.R_drewN | apply Kd.R_drew)); exact Kd.R_mono HO374.out (fun _ hk => hk.2)⟩, ⟨aq0⟩⟩
   case round =>
    clear H'
    obtain ⟨MID, x3_2, x8_2, rfl, HA, HK2, HO_3, HO_4, HO_5, HO_7, HB⟩ := hrel
    cases gk with
    | zero => exact absurd HA.out (by simp [palingref15_Behind.l1])
    | succ k2 =>
     have H := HA.out
     clear HA
     simp only [palingref15_Behind.l1] at H
     by_cases c13 : x8_2 < (t369.length : Int)
     rotate_left
     ·rw [if_neg c13] at H
      have c13b0 : decide (x8_2 < (t369.length : Int)) = false := decide_eq_false c13
      clear c13
      have H' := Aside0.mk H
      clear H
      obtain ⟨Ao44, co44, eo44⟩ := Kd.R_slice HO_5.out
      subst eo44
      go_wp2
      go_roundg k2
      case measure => have := HK1.out; have := HK2.out; omega
      case rel => exact ⟨MID, (x3_2), (wrap64 (x6_1 + 1)), aq7, H', ⟨aq42⟩, ⟨by (with_reducible repeat (first | apply Kd.S_alloc | apply Kd.S_drewN | apply Kd.S_drew)); exact Kd.S_mono HO_3.out (fun _ hk => ⟨hk.1, hk.2.1⟩)⟩, ⟨by (with_reducible repeat (first | apply Kd.S_alloc | apply Kd.S_drewN | apply Kd.S_drew)); exact Kd.S_mono HO_4.out (fun _ hk => ⟨hk.1, hk.2.1⟩)⟩, ⟨by (with_reducible repeat (first | apply Kd.R_alloc | apply Kd.R_drewN | apply Kd.R_drew)); exact Kd.R_mono HO_5.out (fun _ hk => trivial)⟩, ⟨aq0⟩⟩
     rw [if_pos c13] at H
     have c13b0 : decide (x8_2 < (t369.length : Int)) = true := decide_eq_true c13
     clear c13
     have H' := Aside0.mk H
     clear H
     obtain ⟨Ao14, co14, eo14⟩ := Kd.R_slice HO_5.out
     subst eo14
     go_wp2
     go_loopg [9, 10] k2 (fun kq v9 v10 w' => ∃ (MID : Nat → Prop) (x9_3 : Bool) (x10_3 : Int), v9 = .bool x9_3 ∧ v10 = .int .i64 x10_3 ∧ Aside0 (palingref15_Behind.l2 kq l0 x3_2 t366 t369 x6_1 t372 x8_2 x9_3 x10_3 = some r) ∧ Aside0 (kq ≤ k2) ∧ Aside0 (Kd.S (Kd.slice 3 (Kd.int .i64)) 23 w' w.heap.size (fun k_ => (some k_ ≠ (v367 : Value).ownBlock ∧ ¬ MID k_) ∧ some k_ ≠ ((.slice Ao14 t369.length co14) : Value).ownBlock ∧ some k_ ≠ (v373 : Value).ownBlock) v364 x3_2) ∧ Aside0 (Kd.S (Kd.slice 3 (Kd.int .i64)) 23 w' w.heap.size (fun k_ => (some k_ ≠ (v364 : Value).ownBlock ∧ MID k_) ∧ some k_ ≠ ((.slice Ao14 t369.length co14) : Value).ownBlock ∧ some k_ ≠ (v373 : Value).ownBlock) v367 t366) ∧ Aside0 (Kd.R (Kd.int .i64) 3 w' w.heap.size (fun k_ => some k_ ≠ (v373 : Value).ownBlock) (.slice Ao14 t369.length co14) t369) ∧ Aside0 (Kd.R (Kd.int .i64) 3 w' w.heap.size (fun k_ => some k_ ≠ ((.slice Ao14 t369.length co14) : Value).ownBlock) v373 t372) ∧ Aside0 (Below w.heap.size w w'))
     case atStart => exact ⟨MID, (false), (0), aq7, aq7, H', ⟨Nat.le_refl _⟩, ⟨aq38⟩, ⟨aq19⟩, ⟨aq10⟩, ⟨aq18⟩, ⟨aq0⟩⟩
     case round =>
      clear H'
      obtain ⟨MID, x9_3, x10_3, rfl, rfl, HA, HK3, HO_3, HO_4, HO_5, HO_7, HB⟩ := hrel
      cases gk with
      | zero => exact absurd HA.out (by simp [palingref15_Behind.l2])
      | succ k3 =>
       have H := HA.out
       clear HA
       simp only [palingref15_Behind.l2] at H
       by_cases c15 : x10_3 < (t372.length : Int)
       rotate_left
       ·rw [if_neg c15] at H
        have c15b0 : decide (x10_3 < (t372.length : Int)) = false := decide_eq_false c15
        clear c15
        by_cases c28 : x9_3 = true
        rotate_left
        ·replace c28 := Bool.eq_false_iff.mpr c28
         subst c28
         rw [if_neg nf_] at H
         have H' := Aside0.mk H
         clear H
         obtain ⟨Ao43, co43, eo43⟩ := Kd.R_slice HO_7.out
         subst eo43
         go_wp2
         go_roundg k3
         case measure => have := HK1.out; have := HK2.out; have := HK3.out; omega
         case rel => exact ⟨MID, (x3_2), (wrap64 (x8_2 + 1)), aq7, H', ⟨aq51⟩, ⟨aq38⟩, ⟨aq19⟩, ⟨aq10⟩, ⟨aq18⟩, ⟨aq0⟩⟩
        subst c28
        rw [if_pos rfl] at H
        by_cases c29 : 0 ≤ x6_1
        rotate_left
        ·rw [if_neg c29] at H
         exact absurd H (by simp)
        rw [if_pos c29] at H
        have c29b0 : decide (0 ≤ x6_1) = true := decide_eq_true c29
        clear c29
        by_cases c30 : x6_1 < (x3_2.length : Int)
        rotate_left
        ·rw [if_neg c30] at H
         exact absurd H (by simp)
        rw [if_pos c30] at H
        have c30b0 : decide (x6_1 < (x3_2.length : Int)) = true := decide_eq_true c30
        clear c30
        by_cases c31 : 0 ≤ x8_2
        rotate_left
        ·rw [if_neg c31] at H
         exact absurd H (by simp)
        rw [if_pos c31] at H
        have c31b0 : decide (0 ≤ x8_2) = true := decide_eq_true c31
        clear c31
        by_cases c32 : x8_2 < (t369.length : Int)
        rotate_left
        ·rw [if_neg c32] at H
         exact absurd H (by simp)
        rw [if_pos c32] at H
        have c32b0 : decide (x8_2 < (t369.length : Int)) = true := decide_eq_true c32
        clear c32
        by_cases c33 : (rd_L3 x3_2 x6_1).length < 17592186044416
        rotate_left
        ·rw [if_neg c33] at H
         exact absurd H (by simp)
        rw [if_pos c33] at H
        have LMc33 := Aside0.mk c33
        clear c33
        obtain ⟨y381, hy_⟩ : ∃ y_ : List Int, y_ = ((rd_L3 x3_2 x6_1) ++ [rd t369 x8_2]) := ⟨_, rfl⟩
        replace H : (palingref15_Behind.l1 k3 l0 (x3_2.set (x6_1 : Int).toNat y381) t366 t369 x6_1 t372 (wrap64 (x8_2 + 1))) = some r := aq3
        have Ny381 := Aside0.mk hy_
        clear hy_
        obtain ⟨y384, hy_⟩ : ∃ y_ : List (List Int), y_ = (x3_2.set (x6_1 : Int).toNat y381) := ⟨_, rfl⟩
        replace H : (palingref15_Behind.l1 k3 l0 y384 t366 t369 x6_1 t372 (wrap64 (x8_2 + 1))) = some r := aq3
        have Ny384 := Aside0.mk hy_
        clear hy_
        have H' := Aside0.mk H
        clear H
        obtain ⟨Ao35, co35, eo35⟩ := Kd.R_slice HO_7.out
        subst eo35
        try go_wp2
        replace HO_3 := Aside0.mk (Kd.S_drew HO_3.out)
        replace HO_4 := Aside0.mk (Kd.S_drew HO_4.out)
        replace HO_5 := Aside0.mk (Kd.R_drew HO_5.out)
        replace HO_7 := Aside0.mk (Kd.R_drew HO_7.out)
        replace HB := Aside0.mk (below_drew1 HB.out)
        obtain ⟨MID, hMs_, ha_, hc_⟩ := mid_cut HO_3.out HO_4.out
        replace HO_3 := Aside0.mk ha_
        replace HO_4 := Aside0.mk hc_
        clear ha_ hc_
        obtain ⟨Ao37, co37, eo37⟩ := Kd.S_slice HO_3.out
        (first | subst eo37 | (injection eo37 with f1_ f2_ f3_; have f4_ := f1_.symm; have f5_ := f3_.symm; clear f1_ f2_ f3_; subst f4_; subst f5_))
        have p379 : 0 ≤ (x6_1 : Int) := of_decide_eq_true aq2
        have q379 : x6_1 < (x3_2.length : Int) := of_decide_eq_true aq2
        obtain ⟨ad379, A379_0, c379_0, e379, hx379_0, hl379_0, hi379_0⟩ := at_L3 (Kd.S_reads' HO_3.out).2.2 x6_1 p379 q379
        cases e379
        obtain ⟨ce379, hce379, hMe379, hcc379⟩ := Kd.S_get HO_3.out [] x6_1 p379 (by first | exact q379 | exact of_decide_eq_true aq2 | (have e_ := (Kd.S_reads' HO_3.out).1; omega))
        obtain ⟨ve379_0, rfl, ge379_0⟩ := hMe379
        have hv379_0 := hcc379 0 _ rfl
        rw [Nat.add_zero, show ((Kd.slice 3 (Kd.int .i64))).sz = 1 from rfl, Nat.mul_one] at hv379_0
        replace hv379_0 := Option.some.inj (hv379_0.symm.trans hx379_0)
        rw [hv379_0] at ge379_0
        have HL379_0 := Aside0.mk (show Kd.R (Kd.int .i64) 3 _ _ _ _ (rd_L3 x3_2 x6_1) from ge379_0)
        clear hv379_0 ge379_0
        have HX379_0 := Aside0.mk hx379_0
        clear hcc379 hce379
        have HR379_0 := Aside0.mk hi379_0
        have HC379_0 := Aside0.mk hl379_0
        clear hi379_0 hl379_0
        replace p379 := eq_true p379
        replace q379 := eq_true q379
        have p380 : 0 ≤ (x8_2 : Int) := of_decide_eq_true aq2
        have q380 : x8_2 < (t369.length : Int) := of_decide_eq_true aq2
        obtain ⟨ad380, e380, hx380_0⟩ := Kd.at_int (Kd.R_reads' HO_5.out).2.2 x8_2 p380 q380
        cases e380
        replace p380 := eq_true p380
        replace q380 := eq_true q380
        obtain ⟨go38, co38, eo38, gb0, gl38, cl38, HG38⟩ := Kd.S_form HO_3.out (by have h_ : (x6_1 : Int) < ((x3_2.length : Int) : Int) := of_decide_eq_true aq2; have h2_ : 0 ≤ (x6_1 : Int) := (of_decide_eq_true aq2); omega)
        (first | cases eo38 | (injection eo38 with ea_ en_ ec_; (first | subst ea_ | (injection ea_ with ea_; subst ea_)); subst ec_; clear en_))
        have GB38 := Aside0.mk gb0
        have GG38 := Aside0.mk HG38
        clear gb0 gl38 HG38
        (first | simp only [add_plain] at hx379_0 | skip)
        obtain ⟨oki38, ce38, hcl38, hM38, hcc38, _, _, hH38⟩ := Kd.S_elem HO_3.out [] (x6_1 : Int) (of_decide_eq_true aq2) (by have h_ : (x6_1 : Int) < ((x3_2.length : Int) : Int) := of_decide_eq_true aq2; first | exact h_ | (have e_ := (Kd.S_reads' HO_3.out).1; omega) | simpa using h_)
        obtain ⟨ve38_0, rfl, ge38_0⟩ := hM38
        have hv38 := hcc38 0 _ rfl
        have hX38 := HX379_0.out
        (try simp only [add_plain] at hX38)
        (try simp only [Nat.add_zero] at hv38)
        (try rw [show ((Kd.slice 3 (Kd.int .i64))).sz = 1 from rfl, Nat.mul_one] at hv38)
        replace hv38 := Option.some.inj (hv38.symm.trans hX38)
        subst hv38
        clear hX38 hcc38 hcl38
        have UU38 := Aside0.mk (show Kd.R (Kd.int .i64) 3 _ w.heap.size oki38 (.slice A379_0 (rd_L3 x3_2 x6_1).length c379_0) (rd_L3 x3_2 x6_1) from ge38_0)
        have HH38 := Aside0.mk hH38
        have HN38 := Aside0.mk (Kd.S_reads' HO_3.out).1
        clear hH38 ge38_0
        refine start_ (n := 14) (S := fun w' => w'.cell? ⟨go38, (x6_1).toNat, none⟩ = some (.slice A379_0 (rd_L3 x3_2 x6_1).length c379_0) ∧ w'.cell? (ad380.add (x8_2).toNat) = some (.int .i64 (rd t369 x8_2))) (ds := [11, 13]) #[false, false, false, false, false, false, false, false, false, false, false, false, false, false] (by kernel_rfl) rfl rfl ⟨hx379_0, hx380_0⟩ (fun hHeld => ?_); refine with_tabW palingref15_Behind.tab17 palingref15_Behind.bits17 (fun HT_ HW_ => ?_)
        generalize wr.drew = w36 at hMs_ HO_3 HO_4 HO_5 HO_7 HB GG38 HH38 HL379_0 HR379_0 HX379_0 UU38 hx379_0 hx380_0 hHeld ⊢
        refine pz (i := 0) (N := some 55) (bz 14 1) rfl rfl ?_
        refine pz (i := 1) (N := some 56) (bz 14 3) rfl rfl ?_
        refine pz (i := 2) (N := some 57) (bz 14 7) rfl rfl ?_
        refine pz (i := 3) (N := some 58) (bz 14 15) rfl rfl ?_
        refine pz (i := 4) (N := some 59) (bz 14 31) rfl rfl ?_
        refine pz (i := 6) (N := some 61) (bz 14 95) rfl rfl ?_
        refine pz (i := 7) (N := some 62) (bz 14 223) rfl rfl ?_
        refine pz (i := 8) (N := some 63) (bz 14 479) rfl rfl ?_
        refine tz2 (i := 5) (N := some 60) (bz 14 511) rfl rfl hHeld ?_
        refine tz2 (i := 9) (N := some 64) (bz 14 1023) rfl rfl hHeld ?_
        refine one_ (i := 10) (N := some 65) #[true, true, true, true, true, true, true, true, true, true, true, false, false, false] rfl rfl (one_of HT_.out (by kernel_rfl)) (by decide) (fun K hK => ?_)
        refine value_ (w1 := ?_) (v := ?_) (by rfl) rfl ?_ ?_
        rotate_left 2
        ·go_simp
         constructor
         ·rfl
         ·rfl
        refine hK.out _ _ ⟨(World.cell?_alloc_lt _ _ _ (World.block_lt_of_cell? _ _ (hHeld.1))).trans (hHeld.1), (World.cell?_alloc_lt _ _ _ (World.block_lt_of_cell? _ _ (hHeld.2))).trans (hHeld.2)⟩ (fun hHeld => ?_)
        clear hK K
        refine norm_ (a' := ?_) ?_ ?_
        rotate_left
        ·show Act.put _ (some 65) _ = _
         simp only [Act.put, List.setIfInBounds_toArray, List.set_cons_zero, List.set_cons_succ, i64_w, i32_w]
         rfl
        refine last_ (i := 11) (N := some 66) #[true, true, true, true, true, true, true, true, true, true, true, true, false, false] rfl rfl (one_of HT_.out (by kernel_rfl)) (by decide) (fun K hK => ?_)
        refine Kd.R_append_step (Kd.int .i64) (w0 := w) w.heap.size (by rfl) (.tmp 60) (.tmp 65) 23 3 (.int .i64 0) 8 rfl Tryd.underlying23 info3 rfl (by decide) (by omega) (.slice A379_0 (rd_L3 x3_2 x6_1).length c379_0) (rd_L3 x3_2 x6_1) (rd t369 x8_2) [.int .i64 (rd t369 x8_2)] (fun k_ => oki38 k_ ∨ ((fun k_ => (some k_ ≠ (v367 : Value).ownBlock ∧ ¬ MID k_) ∧ some k_ ≠ (.slice (some ad380) t369.length co14 : Value).ownBlock ∧ some k_ ≠ (.slice Ao35 t372.length co35 : Value).ownBlock)) k_ ∧ w36.heap.size ≤ k_) (fun _ => False) rfl rfl ?aP (fun _ hk => hk.elim) ?aF ?aO ?aB ?aS ?aL ?_
        (case aP => exact rfl)
        (case aB => exact aq0)
        (case aF => exact (fun k_ hk => .inr ⟨⟨⟨Kd.fresh' (Kd.S_lt aq19) k_ hk, hMs_ k_ hk⟩, Kd.fresh' (Kd.R_lt aq10) k_ hk, Kd.fresh' (Kd.R_lt aq18) k_ hk⟩, hk⟩))
        (case aO => exact (by (with_reducible repeat (first | apply Kd.R_alloc | apply Kd.R_drewN | apply Kd.R_drew)); exact Kd.R_mono UU38.out (fun _ hk => .inl hk)))
        (case aS => exact (below_size aq0))
        (case aL => have := LMc33.out; omega)
        intro v382 w39 ho hb hg hat
        rw [← Ny381.out] at ho
        replace HO_4 := Aside0.mk ((Kd.S_grown aq19 hg (by intro k_ hk e_; exact (HL379_0.out.1 k_ e_.symm).1.1.2 hk.1.2)))
        replace HO_5 := Aside0.mk (Kd.R_grown2 aq10 rfl hg (fun k_ e_ => (HL379_0.out.1 k_ e_).1.2.1))
        replace HO_7 := Aside0.mk (Kd.R_grown2 aq18 rfl hg (fun k_ e_ => (HL379_0.out.1 k_ e_).1.2.2))
        replace HB := Aside0.mk (hb)
        replace HH38 := Aside0.mk (Kd.H_grown (Kd.H_widen (by repeat (first | exact HH38.out | refine Kd.H_alloc ?_ _ | refine Kd.H_drewN ?_ _ | refine Kd.H_drew ?_))) hg (fun k_ e_ => .inl (UU38.out.1 k_ e_)))
        have HO383 := Aside0.mk (ho)
        clear HO_3 UU38 HL379_0 ho hb hg hat
        have p34 : 0 ≤ (x6_1 : Int) := of_decide_eq_true aq2
        have q34 : (x6_1 : Int) < ((x3_2.length : Int) : Int) := of_decide_eq_true aq2
        replace p34 := eq_true p34
        replace q34 := eq_true q34
        obtain ⟨Ao42, co42, eo42⟩ := Kd.R_slice HO383.out
        (first | subst eo42 | (injection eo42 with f1_ f2_ f3_; have f4_ := f1_.symm; have f5_ := f3_.symm; clear f1_ f2_ f3_; subst f4_; subst f5_))
        obtain ⟨_, _, hraw40, _, _, hcc40, _⟩ := Kd.H_raw HH38.out (of_decide_eq_true aq2) (by have h_ : (x6_1 : Int) < ((x3_2.length : Int) : Int) := of_decide_eq_true aq2; first | exact h_ | (have e_ := (HN38.out); omega) | simpa using h_)
        obtain ⟨_, hfr40⟩ := Kd.H_at HH38.out (of_decide_eq_true aq2) (by have h_ : (x6_1 : Int) < ((x3_2.length : Int) : Int) := of_decide_eq_true aq2; first | exact h_ | (have e_ := (HN38.out); omega) | simpa using h_)
        have hx40_0 := hcc40 0 _ rfl
        have hf40_0 := hfr40 0
        (try simp only [Nat.add_zero] at hx40_0 hf40_0)
        (try rw [show ((Kd.slice 3 (Kd.int .i64))).sz = 1 from rfl, Nat.mul_one] at hx40_0)
        (try rw [show ((Kd.slice 3 (Kd.int .i64))).sz = 1 from rfl, Nat.mul_one] at hf40_0)
        have HP40 := Kd.S_seg0 HH38.out (of_decide_eq_true aq2) (by have h_ : (x6_1 : Int) < ((x3_2.length : Int) : Int) := of_decide_eq_true aq2; first | exact h_ | (have e_ := (HN38.out); omega) | simpa using h_) (seg := [.slice Ao42 y381.length co42]) (j := 0) (show 1 ≤ 1 from by decide) (x' := y381) (Kd.M_row HO383.out) (fun _ hk => hk)
        (try simp only [show ((Kd.slice 3 (Kd.int .i64))).sz = 1 from rfl, Nat.mul_one, Nat.add_zero] at HP40)
        clear hcc40 hfr40
        have HS40 := HP40.1
        rw [← Ny384.out] at HS40
        have HQ40 := Aside0.mk HS40
        obtain ⟨_, hgg40⟩ := Kd.R_typed hraw40 go38 rfl
        have GG40_ := Aside0.mk hgg40
        clear HP40 HS40 hgg40
        refine hK.out _ _ ?_
        clear hK K
        refine norm_ (a' := ?_) ?_ ?_
        rotate_left
        ·show Act.put _ (some 66) _ = _
         simp only [Act.put, List.setIfInBounds_toArray, List.set_cons_zero, List.set_cons_succ, i64_w, i32_w]
         rfl
        refine pz (i := 12) (N := some 67) (bz 14 8191) rfl rfl ?_
        refine last_ (i := 13) (N := none) #[true, true, true, true, true, true, true, true, true, true, true, true, true, true] rfl rfl (one_of HT_.out (by kernel_rfl)) (by decide) (fun K hK => ?_)
        refine skip_ (w1 := ?_) (by rfl) rfl ?_ ?_
        rotate_left
        ·go_simp
         rfl
        refine hK.out _ _ ?_
        clear hK K
        refine done_ (done_of HT_.out (by kernel_rfl)) ?_
        try go_wp2
        go_roundg k3
        case measure => have := HK1.out; have := HK2.out; have := HK3.out; omega
        case rel => exact ⟨MID, (y384), (wrap64 (x8_2 + 1)), aq7, H', ⟨aq51⟩, ⟨by (with_reducible repeat (first | apply Kd.S_alloc | apply Kd.S_drewN | apply Kd.S_drew)); exact HQ40.out⟩, ⟨by (with_reducible repeat (first | apply Kd.S_alloc | apply Kd.S_drewN | apply Kd.S_drew)); exact Kd.S_mono (Kd.S_far (p := ⟨go38, (x6_1 : Int).toNat, none⟩) (Kd.S_mono HO_4.out (fun k_ hk => (⟨hk, fun e_ => hk.1.1 (by rw [e_]; rfl)⟩ : _ ∧ k_ ≠ go38))) (fun _ hk => hk.2) (.slice Ao42 y381.length co42)) (fun _ hk => ⟨hk.1.1, ⟨hk.1.2.1, hk.1.2.2⟩⟩)⟩, ⟨by (with_reducible repeat (first | apply Kd.R_alloc | apply Kd.R_drewN | apply Kd.R_drew)); exact Kd.R_mono (Kd.R_far (p := ⟨go38, (x6_1 : Int).toNat, none⟩) (Kd.R_types HO_5.out GG40_.out (by decide)) (fun _ hk => hk.2) (.slice Ao42 y381.length co42)) (fun _ hk => hk.1)⟩, ⟨by (with_reducible repeat (first | apply Kd.R_alloc | apply Kd.R_drewN | apply Kd.R_drew)); exact Kd.R_mono (Kd.R_far (p := ⟨go38, (x6_1 : Int).toNat, none⟩) (Kd.R_types HO_7.out GG40_.out (by decide)) (fun _ hk => hk.2) (.slice Ao42 y381.length co42)) (fun _ hk => hk.1)⟩, ⟨by repeat (first | (with_reducible first | exact HB.out | apply below_alloc | apply pw_below_drewN | apply below_drew1 | refine below_set ?_ GB38.out) | exact HB.out)⟩⟩
       rw [if_pos c15] at H
       have c15b0 : decide (x10_3 < (t372.length : Int)) = true := decide_eq_true c15
       clear c15
       by_cases c16 : x9_3 = true
       ·subst c16
        rw [if_pos rfl] at H
        have H' := Aside0.mk H
        clear H
        obtain ⟨Ao17, co17, eo17⟩ := Kd.R_slice HO_7.out
        subst eo17
        try go_wp2
        replace HO_3 := Aside0.mk (Kd.S_drew HO_3.out)
        replace HO_4 := Aside0.mk (Kd.S_drew HO_4.out)
        replace HO_5 := Aside0.mk (Kd.R_drew HO_5.out)
        replace HO_7 := Aside0.mk (Kd.R_drew HO_7.out)
        replace HB := Aside0.mk (below_drew1 HB.out)
        refine start_ (n := 16) (S := fun w' => True) (ds := []) #[false, false, false, false, false, false, false, false, false, false, false, false, false, false, false, false] (by kernel_rfl) rfl rfl trivial (fun hHeld => ?_); refine with_tabW palingref15_Behind.tab15 palingref15_Behind.bits15 (fun HT_ HW_ => ?_)
        generalize wr.drew = w18 at HO_3 HO_4 HO_5 HO_7 HB hHeld ⊢
        refine pz (i := 0) (N := some 39) (bz 16 1) rfl rfl ?_
        refine pz (i := 1) (N := some 40) (bz 16 3) rfl rfl ?_
        refine pu (i := 2) (N := some 41) (bz 16 7) rfl rfl ?_
        refine pu (i := 3) (N := some 42) (bz 16 15) rfl rfl ?_
        refine pu (i := 4) (N := some 43) (bz 16 31) rfl rfl ?_
        refine pu (i := 5) (N := some 44) (bz 16 63) rfl rfl ?_
        refine pu (i := 6) (N := some 45) (bz 16 127) rfl rfl ?_
        refine pu (i := 7) (N := some 46) (bz 16 255) rfl rfl ?_
        refine pu (i := 8) (N := some 47) (bz 16 511) rfl rfl ?_
        refine pu (i := 9) (N := some 48) (bz 16 1023) rfl rfl ?_
        refine pu (i := 10) (N := some 49) (bz 16 2047) rfl rfl ?_
        refine pu (i := 11) (N := some 50) (bz 16 4095) rfl rfl ?_
        refine pu (i := 12) (N := some 51) (bz 16 8191) rfl rfl ?_
        refine pu (i := 13) (N := some 52) (bz 16 16383) rfl rfl ?_
        refine pz (i := 14) (N := some 53) (bz 16 32767) rfl rfl ?_
        refine pz (i := 15) (N := some 9) (bz 16 65535) rfl rfl ?_
        refine done_ (done_of HT_.out (by kernel_rfl)) ?_
        try go_wp2
        go_roundg k3
        case measure => have := HK1.out; have := HK2.out; have := HK3.out; omega
        case rel => exact ⟨MID, (true), (wrap64 (x10_3 + 1)), aq7, aq7, H', ⟨aq51⟩, ⟨aq38⟩, ⟨aq19⟩, ⟨aq10⟩, ⟨aq18⟩, ⟨aq0⟩⟩
       replace c16 := Bool.eq_false_iff.mpr c16
       subst c16
       rw [if_neg nf_] at H
       by_cases c19 : 0 ≤ x10_3
       rotate_left
       ·rw [if_neg c19] at H
        exact absurd H (by simp)
       rw [if_pos c19] at H
       have c19b0 : decide (0 ≤ x10_3) = true := decide_eq_true c19
       clear c19
       by_cases c20 : 0 ≤ (rd t372 x10_3)
       rotate_left
       ·rw [if_neg c20] at H
        exact absurd H (by simp)
       rw [if_pos c20] at H
       have c20b0 : decide (0 ≤ (rd t372 x10_3)) = true := decide_eq_true c20
       clear c20
       by_cases c21 : (rd t372 x10_3) < (t366.length : Int)
       rotate_left
       ·rw [if_neg c21] at H
        exact absurd H (by simp)
       rw [if_pos c21] at H
       have c21b0 : decide ((rd t372 x10_3) < (t366.length : Int)) = true := decide_eq_true c21
       clear c21
       by_cases c22 : 0 ≤ x8_2
       rotate_left
       ·rw [if_neg c22] at H
        exact absurd H (by simp)
       rw [if_pos c22] at H
       have c22b0 : decide (0 ≤ x8_2) = true := decide_eq_true c22
       clear c22
       by_cases c23 : x8_2 < (t369.length : Int)
       rotate_left
       ·rw [if_neg c23] at H
        exact absurd H (by simp)
       rw [if_pos c23] at H
       have c23b0 : decide (x8_2 < (t369.length : Int)) = true := decide_eq_true c23
       clear c23
       obtain ⟨t378, A24, H⟩ := bS_ H
       have H' := Aside0.mk H
       clear H
       obtain ⟨Ao25, co25, eo25⟩ := Kd.R_slice HO_7.out
       subst eo25
       try go_wp2
       replace HO_3 := Aside0.mk (Kd.S_drew HO_3.out)
       replace HO_4 := Aside0.mk (Kd.S_drew HO_4.out)
       replace HO_5 := Aside0.mk (Kd.R_drew HO_5.out)
       replace HO_7 := Aside0.mk (Kd.R_drew HO_7.out)
       replace HB := Aside0.mk (below_drew1 HB.out)
       have p375 : 0 ≤ (x10_3 : Int) := of_decide_eq_true aq2
       have q375 : x10_3 < (t372.length : Int) := of_decide_eq_true aq2
       obtain ⟨ad375, e375, hx375_0⟩ := Kd.at_int (Kd.R_reads' HO_7.out).2.2 x10_3 p375 q375
       cases e375
       replace p375 := eq_true p375
       replace q375 := eq_true q375
       obtain ⟨Ao27, co27, eo27⟩ := Kd.S_slice HO_4.out
       (first | subst eo27 | (injection eo27 with f1_ f2_ f3_; have f4_ := f1_.symm; have f5_ := f3_.symm; clear f1_ f2_ f3_; subst f4_; subst f5_))
       have p376 : 0 ≤ ((rd t372 x10_3) : Int) := of_decide_eq_true aq2
       have q376 : (rd t372 x10_3) < (t366.length : Int) := of_decide_eq_true aq2
       obtain ⟨ad376, A376_0, c376_0, e376, hx376_0, hl376_0, hi376_0⟩ := at_L3 (Kd.S_reads' HO_4.out).2.2 (rd t372 x10_3) p376 q376
       cases e376
       obtain ⟨ce376, hce376, hMe376, hcc376⟩ := Kd.S_get HO_4.out [] (rd t372 x10_3) p376 (by first | exact q376 | exact of_decide_eq_true aq2 | (have e_ := (Kd.S_reads' HO_4.out).1; omega))
       obtain ⟨ve376_0, rfl, ge376_0⟩ := hMe376
       have hv376_0 := hcc376 0 _ rfl
       rw [Nat.add_zero, show ((Kd.slice 3 (Kd.int .i64))).sz = 1 from rfl, Nat.mul_one] at hv376_0
       replace hv376_0 := Option.some.inj (hv376_0.symm.trans hx376_0)
       rw [hv376_0] at ge376_0
       have HL376_0 := Aside0.mk (show Kd.R (Kd.int .i64) 3 _ _ _ _ (rd_L3 t366 (rd t372 x10_3)) from ge376_0)
       clear hv376_0 ge376_0
       have HX376_0 := Aside0.mk hx376_0
       clear hcc376 hce376
       have HR376_0 := Aside0.mk hi376_0
       have HC376_0 := Aside0.mk hl376_0
       clear hi376_0 hl376_0
       replace p376 := eq_true p376
       replace q376 := eq_true q376
       have p377 : 0 ≤ (x8_2 : Int) := of_decide_eq_true aq2
       have q377 : x8_2 < (t369.length : Int) := of_decide_eq_true aq2
       obtain ⟨ad377, e377, hx377_0⟩ := Kd.at_int (Kd.R_reads' HO_5.out).2.2 x8_2 p377 q377
       cases e377
       replace p377 := eq_true p377
       replace q377 := eq_true q377
       refine start_ (n := 16) (S := fun w' => w'.cell? (ad375.add (x10_3).toNat) = some (.int .i64 (rd t372 x10_3)) ∧ w'.cell? (ad376.add ((rd t372 x10_3)).toNat) = some (.slice A376_0 (rd_L3 t366 (rd t372 x10_3)).length c376_0) ∧ w'.cell? (ad377.add (x8_2).toNat) = some (.int .i64 (rd t369 x8_2))) (ds := []) #[false, false, false, false, false, false, false, false, false, false, false, false, false, false, false, false] (by kernel_rfl) rfl rfl ⟨hx375_0, hx376_0, hx377_0⟩ (fun hHeld => ?_); refine with_tabW palingref15_Behind.tab15 palingref15_Behind.bits15 (fun HT_ HW_ => ?_)
       generalize wr.drew = w26 at HO_3 HO_4 HO_5 HO_7 HB HL376_0 HR376_0 HX376_0 hx375_0 hx376_0 hx377_0 hHeld ⊢
       refine pz (i := 0) (N := some 39) (bz 16 1) rfl rfl ?_
       refine pz (i := 1) (N := some 40) (bz 16 3) rfl rfl ?_
       refine pz (i := 2) (N := some 41) (bz 16 7) rfl rfl ?_
       refine pz (i := 3) (N := some 42) (bz 16 15) rfl rfl ?_
       refine pz (i := 4) (N := some 43) (bz 16 31) rfl rfl ?_
       refine pz (i := 5) (N := some 44) (bz 16 63) rfl rfl ?_
       refine pz (i := 9) (N := some 48) (bz 16 575) rfl rfl ?_
       refine pz (i := 10) (N := some 49) (bz 16 1599) rfl rfl ?_
       refine pz (i := 11) (N := some 50) (bz 16 3647) rfl rfl ?_
       refine tz3 (i := 6) (N := some 45) (bz 16 3711) rfl rfl hHeld ?_
       refine pz (i := 7) (N := some 46) (bz 16 3839) rfl rfl ?_
       refine tz3 (i := 8) (N := some 47) (bz 16 4095) rfl rfl hHeld ?_
       refine tz3 (i := 12) (N := some 51) (bz 16 8191) rfl rfl hHeld ?_
       refine one_ (i := 13) (N := some 52) #[true, true, true, true, true, true, true, true, true, true, true, true, true, true, false, false] rfl rfl (one_of HT_.out (by kernel_rfl)) (by decide) (fun K hK => ?_)
       refine goes_ Tryd.func37 (by kernel_rfl) rfl #[.slice A376_0 (rd_L3 t366 (rd t372 x10_3)).length c376_0, .int .i64 (rd t369 x8_2)] (by rfl) rfl rfl aq8 ?_
       with_reducible refine (palingref15_has.calls k3 _ _ (rd_L3 t366 (rd t372 x10_3)) (rd t369 x8_2) t378 _ ?side1 ?side2 A24.out).mono ?_
       (case side1 => repeat (first | exact (by repeat (first | (with_reducible exact HR376_0.out) | (with_reducible refine Kd.C_alloc ?_ _) | (with_reducible refine Kd.C_drewN ?_ _) | (with_reducible refine Kd.C_drew ?_) | exact HR376_0.out)) | (with_reducible refine Kd.C_alloc ?_ _) | (with_reducible refine Kd.C_drewN ?_ _) | (with_reducible refine Kd.C_drew ?_)))
       (case side2 => exact HC376_0.out)
       rintro e w' ⟨rfl, ⟨nd, rfl⟩⟩
       refine ⟨_, rfl, ?_⟩
       refine hK.out _ _ ⟨hHeld.1, hHeld.2.1, hHeld.2.2⟩ (fun hHeld => ?_)
       clear hK K
       refine norm_ (a' := ?_) ?_ ?_
       rotate_left
       ·show Act.put _ (some 52) _ = _
        simp only [Act.put, List.setIfInBounds_toArray, List.set_cons_zero, List.set_cons_succ, i64_w, i32_w]
        rfl
       refine pz (i := 14) (N := some 53) (bz 16 32767) rfl rfl ?_
       refine pz (i := 15) (N := some 9) (bz 16 65535) rfl rfl ?_
       refine done_ (done_of HT_.out (by kernel_rfl)) ?_
       try go_wp2
       go_roundg k3
       case measure => have := HK1.out; have := HK2.out; have := HK3.out; omega
       case rel => exact ⟨MID, (t378), (wrap64 (x10_3 + 1)), aq7, aq7, H', ⟨aq51⟩, ⟨aq38⟩, ⟨aq19⟩, ⟨aq10⟩, ⟨aq18⟩, ⟨aq0⟩⟩
end Go.Proofs.YtpbhfpbfmpocdaaDoor.PSpillNone
