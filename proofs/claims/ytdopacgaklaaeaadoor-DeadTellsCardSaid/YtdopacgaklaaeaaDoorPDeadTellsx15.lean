-- Written by print2.py over the kit's printer. Not trusted: Lean checks it.
import Derived.Test.YtdopacgaklaaeaaDoorPDeadTellshqq
import Derived.Test.YtdopacgaklaaeaaDoorPDeadTellshsml
import Derived.Test.YtdopacgaklaaeaaDoorPDeadTellsx0
import Derived.Test.YtdopacgaklaaeaaDoorPDeadTellsx9
import Derived.Test.YtdopacgaklaaeaaDoorPDeadTellsx12
import Derived.Test.YtdopacgaklaaeaaDoorPDeadTellsx14
namespace Go.Proofs.YtdopacgaklaaeaaDoor.PDeadTells
open Go.RowKit Go.Proofs.YtdopacgaklaaeaaDoorW.PrintWords Go.Proofs.YtdopacgaklaaeaaDoorW.PrintLast Go.Proofs.YtdopacgaklaaeaaDoorW.PrintMore
attribute [local go_sem] max2_int min2_int max_two min_two max_three min_three max_four min_four   -- for this text's walks alone
set_option linter.unusedVariables false
set_option linter.unusedSimpArgs false

/-! ### palingref15_Behind: function 27 -/
mutual
def palingref15_Behind.l0 : Nat → List (S28) → List (List Int) → List (List Int) → List Int → Int → Option ((List (List Int)))
  | 0, _, _, _, _, _ => none
  | k + 1, x0, x3, x4, x5, x6 => if x6 < (x0.length : Int) then ((palingref14_Next.f k x0 x6).bind fun t352 => (palingref15_Behind.l1 k x0 x3 x4 x5 x6 t352 0)) else (some x3)
def palingref15_Behind.l1 : Nat → List (S28) → List (List Int) → List (List Int) → List Int → Int → List Int → Int → Option ((List (List Int)))
  | 0, _, _, _, _, _, _, _ => none
  | k + 1, x0, x3, x4, x5, x6, x7, x8 => if x8 < (x5.length : Int) then (palingref15_Behind.l2 k x0 x3 x4 x5 x6 x7 x8 false 0) else (palingref15_Behind.l0 k x0 x3 x4 x5 (wrap64 (x6 + 1)))
def palingref15_Behind.l2 : Nat → List (S28) → List (List Int) → List (List Int) → List Int → Int → List Int → Int → Bool → Int → Option ((List (List Int)))
  | 0, _, _, _, _, _, _, _, _, _ => none
  | k + 1, x0, x3, x4, x5, x6, x7, x8, x9, x10 => if x10 < (x7.length : Int) then (if x9 = true then (palingref15_Behind.l2 k x0 x3 x4 x5 x6 x7 x8 true (wrap64 (x10 + 1))) else (if 0 ≤ x10 then (if 0 ≤ (rd x7 x10) then (if (rd x7 x10) < (x4.length : Int) then (if 0 ≤ x8 then (if x8 < (x5.length : Int) then ((palingref15_has.f k (rd_L5 x4 (rd x7 x10)) (rd x5 x8)).bind fun t358 => (palingref15_Behind.l2 k x0 x3 x4 x5 x6 x7 x8 t358 (wrap64 (x10 + 1)))) else (none)) else (none)) else (none)) else (none)) else (none))) else (if x9 = true then (if 0 ≤ x6 then (if x6 < (x3.length : Int) then (if 0 ≤ x8 then (if x8 < (x5.length : Int) then (if (rd_L5 x3 x6).length < 17592186044416 then (palingref15_Behind.l1 k x0 (x3.set (x6 : Int).toNat ((rd_L5 x3 x6) ++ [rd x5 x8])) x4 x5 x6 x7 (wrap64 (x8 + 1))) else (none)) else (none)) else (none)) else (none)) else (none)) else (palingref15_Behind.l1 k x0 x3 x4 x5 x6 x7 (wrap64 (x8 + 1))))
end
def palingref15_Behind.f (k : Nat) (l0 : List (S28)) : Option ((List (List Int))) := if 0 ≤ (l0.length : Int) then (if ((l0.length : Int) : Int).toNat ≤ 11728124029610 then ((palingref15_Ahead.f k l0).bind fun t346 => ((palingref15_Regs.f k l0).bind fun t349 => (palingref15_Behind.l0 k l0 (List.replicate ((l0.length : Int) : Int).toNat []) t346 t349 0))) else (none)) else (none)
theorem palingref15_Behind.mono_l : ∀ k, (∀ y0 y1 y2 y3 y4, LeO (palingref15_Behind.l0 k y0 y1 y2 y3 y4) (palingref15_Behind.l0 (k + 1) y0 y1 y2 y3 y4)) ∧ (∀ y0 y1 y2 y3 y4 y5 y6, LeO (palingref15_Behind.l1 k y0 y1 y2 y3 y4 y5 y6) (palingref15_Behind.l1 (k + 1) y0 y1 y2 y3 y4 y5 y6)) ∧ (∀ y0 y1 y2 y3 y4 y5 y6 y7 y8, LeO (palingref15_Behind.l2 k y0 y1 y2 y3 y4 y5 y6 y7 y8) (palingref15_Behind.l2 (k + 1) y0 y1 y2 y3 y4 y5 y6 y7 y8))
  | 0 => ⟨fun _ _ _ _ _ r h => by simp [palingref15_Behind.l0] at h, fun _ _ _ _ _ _ _ r h => by simp [palingref15_Behind.l1] at h, fun _ _ _ _ _ _ _ _ _ r h => by simp [palingref15_Behind.l2] at h⟩
  | k + 1 => by
    obtain ⟨ih0, ih1, ih2⟩ := palingref15_Behind.mono_l k
    refine ⟨?_, ?_, ?_⟩ <;> intros <;> (first | unfold palingref15_Behind.l0 | unfold palingref15_Behind.l1 | unfold palingref15_Behind.l2) <;> repeat' (first | (with_reducible first | exact ih0 _ _ _ _ _ | exact ih1 _ _ _ _ _ _ _ | exact ih2 _ _ _ _ _ _ _ _ _ | exact palingref14_Next.mono _ _ _ | exact palingref15_Ahead.mono _ _ | exact palingref15_Regs.mono _ _ | exact palingref15_has.mono _ _ _ | exact LeO.refl _ | exact LeO.none _ | refine LeO.ite ?_ ?_ | refine LeO.bind ?_ (fun _ => ?_)) | exact ih0 _ _ _ _ _ | exact ih1 _ _ _ _ _ _ _ | exact ih2 _ _ _ _ _ _ _ _ _ | exact palingref14_Next.mono _ _ _ | exact palingref15_Ahead.mono _ _ | exact palingref15_Regs.mono _ _ | exact palingref15_has.mono _ _ _ | exact LeO.none _ | refine LeO.ite ?_ ?_ | refine LeO.bind ?_ (fun _ => ?_))
theorem palingref15_Behind.mono : ∀ a0 k, LeO (palingref15_Behind.f k a0) (palingref15_Behind.f (k + 1) a0) := by
 intro a0 k
 obtain ⟨ih0, ih1, ih2⟩ := palingref15_Behind.mono_l k
 unfold palingref15_Behind.f
 repeat' (first | (with_reducible first | exact ih0 _ _ _ _ _ | exact ih1 _ _ _ _ _ _ _ | exact ih2 _ _ _ _ _ _ _ _ _ | exact palingref14_Next.mono _ _ _ | exact palingref15_Ahead.mono _ _ | exact palingref15_Regs.mono _ _ | exact palingref15_has.mono _ _ _ | exact LeO.refl _ | exact LeO.none _ | refine LeO.ite ?_ ?_ | refine LeO.bind ?_ (fun _ => ?_)) | exact ih0 _ _ _ _ _ | exact ih1 _ _ _ _ _ _ _ | exact ih2 _ _ _ _ _ _ _ _ _ | exact palingref14_Next.mono _ _ _ | exact palingref15_Ahead.mono _ _ | exact palingref15_Regs.mono _ _ | exact palingref15_has.mono _ _ _ | exact LeO.none _ | refine LeO.ite ?_ ?_ | refine LeO.bind ?_ (fun _ => ?_))
def palingref15_Behind.T15 : Bool × List (List Nat × List Nat) := (true, [([], []), ([0], [0]), ([1], [1]), ([1], [1]), ([1], [1]), ([3, 4, 1], [1, 3, 4]), ([5, 1], [1, 5]), ([2, 6, 1], [1, 2, 6]), ([7, 1], [1, 7]), ([1], [1]), ([1], [1]), ([9, 10, 1], [1, 9, 10]), ([11, 1], [1, 11]), ([8, 12, 1, 1], [1, 8, 12]), ([1, 13], [1, 13]), ([14, 13, 0, 1, 2, 3, 4, 5, 6, 7, 8, 9, 10, 11, 12, 13, 14], [0, 14])])
def palingref15_Behind.B15 : List Nat := [0, 1, 3, 3, 3, 27, 59, 127, 255, 3, 3, 1539, 3587, 8191, 16383, 32767]
theorem palingref15_Behind.tab15 : rtab .any (opsOf Tryd.f27 15) = palingref15_Behind.T15 := by kernel_rfl
theorem palingref15_Behind.bits15 : waitsOk palingref15_Behind.T15.2 palingref15_Behind.B15 = true := by kernel_rfl
def palingref15_Behind.T17 : Bool × List (List Nat × List Nat) := (true, [([], []), ([], []), ([], []), ([], []), ([2, 3], [2, 3]), ([4], [4]), ([], []), ([], []), ([6, 7], [6, 7]), ([8], [8]), ([9], [9]), ([5, 10], [5, 10]), ([0, 1, 0, 1, 2, 3, 4, 5, 6, 7, 8, 9, 10, 11], [0, 1]), ([12, 11, 11, 0, 1, 2, 3, 4, 5, 6, 7, 8, 9, 10, 11], [11, 12])])
def palingref15_Behind.B17 : List Nat := [0, 0, 0, 0, 12, 28, 0, 0, 192, 448, 960, 2044, 4095, 8191]
theorem palingref15_Behind.tab17 : rtab .any (opsOf Tryd.f27 17) = palingref15_Behind.T17 := by kernel_rfl
theorem palingref15_Behind.bits17 : waitsOk palingref15_Behind.T17.2 palingref15_Behind.B17 = true := by kernel_rfl
set_option maxHeartbeats 8000000 in
set_option maxRecDepth 100000 in
theorem palingref15_Behind.calls (k : Nat) (A0 : Option Addr) (c0 : Nat) (l0 : List (S28)) (r : List (List Int)) (w : World) (hr0 : Kd.C k28 w A0 l0.length l0) (hc0 : l0.length ≤ c0) (h : palingref15_Behind.f k l0 = some r) :
    Calls Tryd.prog 27 #[.slice A0 l0.length c0] w fun e w' => ∃ v0_ : Value, e = .returned (v0_) ∧ Kd.S (Kd.slice 3 (Kd.int .i64)) 57 w' w.heap.size (fun _ => True) v0_ r ∧ Below w.heap.size w w' := by
 have HR0 := Aside0.mk hr0
 have HC0 := Aside0.mk hc0
 clear hr0 hc0
 have HB := Aside0.mk (Below.refl w.heap.size w)
 have H : (if 0 ≤ (l0.length : Int) then (if ((l0.length : Int) : Int).toNat ≤ 11728124029610 then ((palingref15_Ahead.f k l0).bind fun t346 => ((palingref15_Regs.f k l0).bind fun t349 => (palingref15_Behind.l0 k l0 (List.replicate ((l0.length : Int) : Int).toNat []) t346 t349 0))) else (none)) else (none)) = some r := h
 clear h
 by_cases c2 : 0 ≤ (l0.length : Int)
 rotate_left
 ·rw [if_neg c2] at H
  exact absurd H (by simp)
 rw [if_pos c2] at H
 have c2b0 := eq_true c2
 have c2b1 : decide (0 ≤ (l0.length : Int)) = true := decide_eq_true c2
 clear c2
 by_cases c3 : ((l0.length : Int) : Int).toNat ≤ 11728124029610
 rotate_left
 ·rw [if_neg c3] at H
  exact absurd H (by simp)
 rw [if_pos c3] at H
 have c3b0 := eq_true c3
 have c3b1 : decide (((l0.length : Int) : Int).toNat ≤ 11728124029610) = true := decide_eq_true c3
 clear c3
 obtain ⟨y343, hy_⟩ : ∃ y_ : List (List Int), y_ = (List.replicate ((l0.length : Int) : Int).toNat []) := ⟨_, rfl⟩
 replace H : ((palingref15_Ahead.f k l0).bind fun t346 => ((palingref15_Regs.f k l0).bind fun t349 => (palingref15_Behind.l0 k l0 y343 t346 t349 0))) = some r := aq1
 have Ny343 := Aside0.mk hy_
 clear hy_
 obtain ⟨t346, A4, H⟩ := bS_ H
 obtain ⟨t349, A5, H⟩ := bS_ H
 have H' := Aside0.mk H
 clear H
 go_enter Tryd.func27, Tryd.ntmps27
 go_wp2_with (first | ((with_reducible refine gate_dst (N := 13) rfl ?_); refine Kd.S_make (Kd.slice 3 (Kd.int .i64)) _ 57 rfl (N := 13) rfl 53 _ _ rfl (l0.length : Int) rfl rfl Tryd.underlying53 (.slice none 0 0) 24 info57 rfl (by decide) (by omega) [] (ok := fun _ => True) (okp := fun _ => True) ⟨_, rfl, Kd.R_nil _ _ _ _ _⟩ (fun _ hk => hk) trivial (of_decide_eq_true aq2) (Nat.le_trans (Nat.mul_le_mul_right _ (of_decide_eq_true aq2 : (l0.length : Int).toNat ≤ 11728124029610)) (by omega)) (Below.refl _ _) (Nat.le_refl _) ?_; intro v344 w6 ho7 hb hg_ hnew_; clear hg_ hnew_; (first | rw [← Ny343.out] at ho7 | (simp only [Int.reduceToNat] at ho7; rw [← Ny343.out] at ho7)); have HO345 := Aside0.mk (Kd.S_lower ho7 (below_size aq0)); replace HB := Aside0.mk (below_step aq0 hb); clear hb ho7) | ((with_reducible refine gate_callee (f := 54) rfl ?_); refine goesL_ (some 15) rfl rfl Tryd.func54 (by kernel_rfl) rfl #[.slice A0 l0.length c0] rfl aq4 ?_; (with_reducible refine (palingref15_Ahead.calls k _ _ l0 t346 _ ?side1 ?side2 A4.out).mono ?_); (case side1 => repeat (first | exact (Kd.C_below HR0.out HB.out) | (with_reducible refine Kd.C_alloc ?_ _) | (with_reducible refine Kd.C_drewN ?_ _) | (with_reducible refine Kd.C_drew ?_))); (case side2 => exact HC0.out); rintro e w8 ⟨v347, rfl, ho0, hb⟩; refine ⟨_, rfl, ?_⟩; obtain ⟨MID, ha_, hc_⟩ := mid_split (by (with_reducible repeat (first | apply Kd.S_alloc | apply Kd.S_drewN | apply Kd.S_drew)); exact HO345.out) ho0 hb; replace HO345 := Aside0.mk ha_; have HO348 := Aside0.mk (Kd.S_lower hc_ (below_size aq0)); replace HB := Aside0.mk (below_step aq0 hb); (try clear hb); (try clear hb2); (try clear hk); (try clear hi); (try clear ho0)) | ((with_reducible refine gate_callee (f := 55) rfl ?_); refine goesL_ (some 17) rfl rfl Tryd.func55 (by kernel_rfl) rfl #[.slice A0 l0.length c0] rfl aq4 ?_; (with_reducible refine (palingref15_Regs.calls k _ _ l0 t349 _ ?side1 ?side2 A5.out).mono ?_); (case side1 => repeat (first | exact (Kd.C_below HR0.out HB.out) | (with_reducible refine Kd.C_alloc ?_ _) | (with_reducible refine Kd.C_drewN ?_ _) | (with_reducible refine Kd.C_drew ?_))); (case side2 => exact HC0.out); rintro e w9 ⟨v350, rfl, ho0, hb⟩; refine ⟨_, rfl, ?_⟩; replace HO345 := Aside0.mk (Kd.S_elder' (by (with_reducible repeat (first | apply Kd.S_alloc | apply Kd.S_drewN | apply Kd.S_drew)); exact HO345.out) (Kd.R_base ho0) hb); replace HO348 := Aside0.mk (Kd.S_elder' (by (with_reducible repeat (first | apply Kd.S_alloc | apply Kd.S_drewN | apply Kd.S_drew)); exact HO348.out) (Kd.R_base ho0) hb); have HO351 := Aside0.mk (Kd.R_lower ho0 (below_size aq0)); replace HB := Aside0.mk (below_step aq0 hb); (try clear hb); (try clear hb2); (try clear hk); (try clear hi); (try clear ho0)))
 go_loopg [6] k (fun kq v6 w' => ∃ (MID : Nat → Prop) (x3_1 : List (List Int)) (x6_1 : Int), v6 = .int .i64 x6_1 ∧ Aside0 (palingref15_Behind.l0 kq l0 x3_1 t346 t349 x6_1 = some r) ∧ Aside0 (kq ≤ k) ∧ Aside0 (Kd.S (Kd.slice 3 (Kd.int .i64)) 57 w' w.heap.size (fun k_ => (some k_ ≠ (v347 : Value).ownBlock ∧ ¬ MID k_) ∧ some k_ ≠ (v350 : Value).ownBlock) v344 x3_1) ∧ Aside0 (Kd.S (Kd.slice 3 (Kd.int .i64)) 57 w' w.heap.size (fun k_ => (some k_ ≠ (v344 : Value).ownBlock ∧ MID k_) ∧ some k_ ≠ (v350 : Value).ownBlock) v347 t346) ∧ Aside0 (Kd.R (Kd.int .i64) 3 w' w.heap.size (fun _ => True) v350 t349) ∧ Aside0 (Below w.heap.size w w'))
 case atStart => exact ⟨MID, (y343), (0), aq5, H', ⟨Nat.le_refl _⟩, ⟨by (with_reducible repeat (first | apply Kd.S_alloc | apply Kd.S_drewN | apply Kd.S_drew)); exact Kd.S_mono HO345.out (fun _ hk => ⟨hk.1.2, hk.2⟩)⟩, ⟨by (with_reducible repeat (first | apply Kd.S_alloc | apply Kd.S_drewN | apply Kd.S_drew)); exact Kd.S_mono HO348.out (fun _ hk => ⟨hk.1.2, hk.2⟩)⟩, ⟨by (with_reducible repeat (first | apply Kd.R_alloc | apply Kd.R_drewN | apply Kd.R_drew)); exact HO351.out⟩, ⟨aq0⟩⟩
 case round =>
  clear H'
  obtain ⟨MID, x3_1, x6_1, rfl, HA, HK1, HO_3, HO_4, HO_5, HB⟩ := hrel
  cases gk with
  | zero => exact absurd HA.out (by simp [palingref15_Behind.l0])
  | succ k1 =>
   have H := HA.out
   clear HA
   simp only [palingref15_Behind.l0] at H
   by_cases c10 : x6_1 < (l0.length : Int)
   rotate_left
   ·rw [if_neg c10] at H
    have c10b0 : decide (x6_1 < (l0.length : Int)) = false := decide_eq_false c10
    clear c10
    obtain rfl := Option.some.inj H
    go_wp2
    go_ret
    exact ⟨_, aq11, by (with_reducible repeat (first | apply Kd.S_alloc | apply Kd.S_drewN | apply Kd.S_drew)); exact Kd.S_mono HO_3.out (fun _ hk => trivial), aq0⟩
   rw [if_pos c10] at H
   have c10b0 : decide (x6_1 < (l0.length : Int)) = true := decide_eq_true c10
   clear c10
   obtain ⟨t352, A11, H⟩ := bS_ H
   have H' := Aside0.mk H
   clear H
   go_wp2_with (first | ((with_reducible refine gate_callee (f := 56) rfl ?_); refine goesL_ (some 26) rfl rfl Tryd.func56 (by kernel_rfl) rfl #[.slice A0 l0.length c0, .int .i64 x6_1] rfl aq4 ?_; (with_reducible refine (palingref14_Next.calls k1 _ _ l0 x6_1 t352 _ ?side1 ?side2 A11.out).mono ?_); (case side1 => repeat (first | exact (Kd.C_below HR0.out HB.out) | (with_reducible refine Kd.C_alloc ?_ _) | (with_reducible refine Kd.C_drewN ?_ _) | (with_reducible refine Kd.C_drew ?_))); (case side2 => exact HC0.out); rintro e w12 ⟨v353, rfl, ho0, hb⟩; refine ⟨_, rfl, ?_⟩; replace HO_3 := Aside0.mk (Kd.S_elder' aq30 (Kd.R_base ho0) hb); replace HO_4 := Aside0.mk (Kd.S_elder' aq35 (Kd.R_base ho0) hb); have HO354 := Aside0.mk (Kd.R_lower (Kd.R_new' ho0 (Kd.R_lt aq12)) (below_size aq0)); replace HO_5 := Aside0.mk (Kd.R_elder' aq12 (Kd.R_base ho0) hb); replace HB := Aside0.mk (below_step aq0 hb); (try clear hb); (try clear hb2); (try clear hk); (try clear hi); (try clear ho0)))
   go_loopg [8] k1 (fun kq v8 w' => ∃ (MID : Nat → Prop) (x3_2 : List (List Int)) (x8_2 : Int), v8 = .int .i64 x8_2 ∧ Aside0 (palingref15_Behind.l1 kq l0 x3_2 t346 t349 x6_1 t352 x8_2 = some r) ∧ Aside0 (kq ≤ k1) ∧ Aside0 (Kd.S (Kd.slice 3 (Kd.int .i64)) 57 w' w.heap.size (fun k_ => (some k_ ≠ (v347 : Value).ownBlock ∧ ¬ MID k_) ∧ some k_ ≠ (v350 : Value).ownBlock ∧ some k_ ≠ (v353 : Value).ownBlock) v344 x3_2) ∧ Aside0 (Kd.S (Kd.slice 3 (Kd.int .i64)) 57 w' w.heap.size (fun k_ => (some k_ ≠ (v344 : Value).ownBlock ∧ MID k_) ∧ some k_ ≠ (v350 : Value).ownBlock ∧ some k_ ≠ (v353 : Value).ownBlock) v347 t346) ∧ Aside0 (Kd.R (Kd.int .i64) 3 w' w.heap.size (fun k_ => some k_ ≠ (v353 : Value).ownBlock) v350 t349) ∧ Aside0 (Kd.R (Kd.int .i64) 3 w' w.heap.size (fun k_ => some k_ ≠ (v350 : Value).ownBlock) v353 t352) ∧ Aside0 (Below w.heap.size w w'))
   case atStart => exact ⟨MID, (x3_1), (0), aq5, H', ⟨Nat.le_refl _⟩, ⟨by (with_reducible repeat (first | apply Kd.S_alloc | apply Kd.S_drewN | apply Kd.S_drew)); exact Kd.S_mono HO_3.out (fun _ hk => ⟨hk.1.1, ⟨hk.1.2, hk.2⟩⟩)⟩, ⟨by (with_reducible repeat (first | apply Kd.S_alloc | apply Kd.S_drewN | apply Kd.S_drew)); exact Kd.S_mono HO_4.out (fun _ hk => ⟨hk.1.1, ⟨hk.1.2, hk.2⟩⟩)⟩, ⟨aq32⟩, ⟨by (with_reducible repeat (first | apply Kd.R_alloc | apply Kd.R_drewN | apply Kd.R_drew)); exact Kd.R_mono HO354.out (fun _ hk => hk.2)⟩, ⟨aq0⟩⟩
   case round =>
    clear H'
    obtain ⟨MID, x3_2, x8_2, rfl, HA, HK2, HO_3, HO_4, HO_5, HO_7, HB⟩ := hrel
    cases gk with
    | zero => exact absurd HA.out (by simp [palingref15_Behind.l1])
    | succ k2 =>
     have H := HA.out
     clear HA
     simp only [palingref15_Behind.l1] at H
     by_cases c13 : x8_2 < (t349.length : Int)
     rotate_left
     ·rw [if_neg c13] at H
      have c13b0 : decide (x8_2 < (t349.length : Int)) = false := decide_eq_false c13
      clear c13
      have H' := Aside0.mk H
      clear H
      obtain ⟨Ao44, co44, eo44⟩ := Kd.R_slice HO_5.out
      subst eo44
      go_wp2
      go_roundg k2
      case measure => have := HK1.out; have := HK2.out; omega
      case rel => exact ⟨MID, (x3_2), (wrap64 (x6_1 + 1)), aq5, H', ⟨aq39⟩, ⟨by (with_reducible repeat (first | apply Kd.S_alloc | apply Kd.S_drewN | apply Kd.S_drew)); exact Kd.S_mono HO_3.out (fun _ hk => ⟨hk.1, hk.2.1⟩)⟩, ⟨by (with_reducible repeat (first | apply Kd.S_alloc | apply Kd.S_drewN | apply Kd.S_drew)); exact Kd.S_mono HO_4.out (fun _ hk => ⟨hk.1, hk.2.1⟩)⟩, ⟨by (with_reducible repeat (first | apply Kd.R_alloc | apply Kd.R_drewN | apply Kd.R_drew)); exact Kd.R_mono HO_5.out (fun _ hk => trivial)⟩, ⟨aq0⟩⟩
     rw [if_pos c13] at H
     have c13b0 : decide (x8_2 < (t349.length : Int)) = true := decide_eq_true c13
     clear c13
     have H' := Aside0.mk H
     clear H
     obtain ⟨Ao14, co14, eo14⟩ := Kd.R_slice HO_5.out
     subst eo14
     go_wp2
     go_loopg [9, 10] k2 (fun kq v9 v10 w' => ∃ (MID : Nat → Prop) (x9_3 : Bool) (x10_3 : Int), v9 = .bool x9_3 ∧ v10 = .int .i64 x10_3 ∧ Aside0 (palingref15_Behind.l2 kq l0 x3_2 t346 t349 x6_1 t352 x8_2 x9_3 x10_3 = some r) ∧ Aside0 (kq ≤ k2) ∧ Aside0 (Kd.S (Kd.slice 3 (Kd.int .i64)) 57 w' w.heap.size (fun k_ => (some k_ ≠ (v347 : Value).ownBlock ∧ ¬ MID k_) ∧ some k_ ≠ ((.slice Ao14 t349.length co14) : Value).ownBlock ∧ some k_ ≠ (v353 : Value).ownBlock) v344 x3_2) ∧ Aside0 (Kd.S (Kd.slice 3 (Kd.int .i64)) 57 w' w.heap.size (fun k_ => (some k_ ≠ (v344 : Value).ownBlock ∧ MID k_) ∧ some k_ ≠ ((.slice Ao14 t349.length co14) : Value).ownBlock ∧ some k_ ≠ (v353 : Value).ownBlock) v347 t346) ∧ Aside0 (Kd.R (Kd.int .i64) 3 w' w.heap.size (fun k_ => some k_ ≠ (v353 : Value).ownBlock) (.slice Ao14 t349.length co14) t349) ∧ Aside0 (Kd.R (Kd.int .i64) 3 w' w.heap.size (fun k_ => some k_ ≠ ((.slice Ao14 t349.length co14) : Value).ownBlock) v353 t352) ∧ Aside0 (Below w.heap.size w w'))
     case atStart => exact ⟨MID, (false), (0), aq5, aq5, H', ⟨Nat.le_refl _⟩, ⟨aq30⟩, ⟨aq35⟩, ⟨aq12⟩, ⟨aq14⟩, ⟨aq0⟩⟩
     case round =>
      clear H'
      obtain ⟨MID, x9_3, x10_3, rfl, rfl, HA, HK3, HO_3, HO_4, HO_5, HO_7, HB⟩ := hrel
      cases gk with
      | zero => exact absurd HA.out (by simp [palingref15_Behind.l2])
      | succ k3 =>
       have H := HA.out
       clear HA
       simp only [palingref15_Behind.l2] at H
       by_cases c15 : x10_3 < (t352.length : Int)
       rotate_left
       ·rw [if_neg c15] at H
        have c15b0 : decide (x10_3 < (t352.length : Int)) = false := decide_eq_false c15
        clear c15
        by_cases c28 : x9_3 = true
        rotate_left
        ·replace c28 := Bool.eq_false_iff.mpr c28
         subst c28
         rw [if_neg nf_] at H
         have H' := Aside0.mk H
         clear H
         obtain ⟨Ao43, co43, eo43⟩ := Kd.R_slice HO_7.out
         subst eo43
         go_wp2
         go_roundg k3
         case measure => have := HK1.out; have := HK2.out; have := HK3.out; omega
         case rel => exact ⟨MID, (x3_2), (wrap64 (x8_2 + 1)), aq5, H', ⟨aq46⟩, ⟨aq30⟩, ⟨aq35⟩, ⟨aq12⟩, ⟨aq14⟩, ⟨aq0⟩⟩
        subst c28
        rw [if_pos rfl] at H
        by_cases c29 : 0 ≤ x6_1
        rotate_left
        ·rw [if_neg c29] at H
         exact absurd H (by simp)
        rw [if_pos c29] at H
        have c29b0 : decide (0 ≤ x6_1) = true := decide_eq_true c29
        clear c29
        by_cases c30 : x6_1 < (x3_2.length : Int)
        rotate_left
        ·rw [if_neg c30] at H
         exact absurd H (by simp)
        rw [if_pos c30] at H
        have c30b0 : decide (x6_1 < (x3_2.length : Int)) = true := decide_eq_true c30
        clear c30
        by_cases c31 : 0 ≤ x8_2
        rotate_left
        ·rw [if_neg c31] at H
         exact absurd H (by simp)
        rw [if_pos c31] at H
        have c31b0 : decide (0 ≤ x8_2) = true := decide_eq_true c31
        clear c31
        by_cases c32 : x8_2 < (t349.length : Int)
        rotate_left
        ·rw [if_neg c32] at H
         exact absurd H (by simp)
        rw [if_pos c32] at H
        have c32b0 : decide (x8_2 < (t349.length : Int)) = true := decide_eq_true c32
        clear c32
        by_cases c33 : (rd_L5 x3_2 x6_1).length < 17592186044416
        rotate_left
        ·rw [if_neg c33] at H
         exact absurd H (by simp)
        rw [if_pos c33] at H
        have LMc33 := Aside0.mk c33
        clear c33
        obtain ⟨y361, hy_⟩ : ∃ y_ : List Int, y_ = ((rd_L5 x3_2 x6_1) ++ [rd t349 x8_2]) := ⟨_, rfl⟩
        replace H : (palingref15_Behind.l1 k3 l0 (x3_2.set (x6_1 : Int).toNat y361) t346 t349 x6_1 t352 (wrap64 (x8_2 + 1))) = some r := aq1
        have Ny361 := Aside0.mk hy_
        clear hy_
        obtain ⟨y364, hy_⟩ : ∃ y_ : List (List Int), y_ = (x3_2.set (x6_1 : Int).toNat y361) := ⟨_, rfl⟩
        replace H : (palingref15_Behind.l1 k3 l0 y364 t346 t349 x6_1 t352 (wrap64 (x8_2 + 1))) = some r := aq1
        have Ny364 := Aside0.mk hy_
        clear hy_
        have H' := Aside0.mk H
        clear H
        obtain ⟨Ao35, co35, eo35⟩ := Kd.R_slice HO_7.out
        subst eo35
        try go_wp2
        replace HO_3 := Aside0.mk (Kd.S_drew HO_3.out)
        replace HO_4 := Aside0.mk (Kd.S_drew HO_4.out)
        replace HO_5 := Aside0.mk (Kd.R_drew HO_5.out)
        replace HO_7 := Aside0.mk (Kd.R_drew HO_7.out)
        replace HB := Aside0.mk (below_drew1 HB.out)
        obtain ⟨MID, hMs_, ha_, hc_⟩ := mid_cut HO_3.out HO_4.out
        replace HO_3 := Aside0.mk ha_
        replace HO_4 := Aside0.mk hc_
        clear ha_ hc_
        obtain ⟨Ao37, co37, eo37⟩ := Kd.S_slice HO_3.out
        (first | subst eo37 | (injection eo37 with f1_ f2_ f3_; have f4_ := f1_.symm; have f5_ := f3_.symm; clear f1_ f2_ f3_; subst f4_; subst f5_))
        have p359 : 0 ≤ (x6_1 : Int) := of_decide_eq_true aq2
        have q359 : x6_1 < (x3_2.length : Int) := of_decide_eq_true aq2
        obtain ⟨ad359, A359_0, c359_0, e359, hx359_0, hl359_0, hi359_0⟩ := at_L5 (Kd.S_reads' HO_3.out).2.2 x6_1 p359 q359
        cases e359
        obtain ⟨ce359, hce359, hMe359, hcc359⟩ := Kd.S_get HO_3.out [] x6_1 p359 (by first | exact q359 | exact of_decide_eq_true aq2 | (have e_ := (Kd.S_reads' HO_3.out).1; omega))
        obtain ⟨ve359_0, rfl, ge359_0⟩ := hMe359
        have hv359_0 := hcc359 0 _ rfl
        rw [Nat.add_zero, show ((Kd.slice 3 (Kd.int .i64))).sz = 1 from rfl, Nat.mul_one] at hv359_0
        replace hv359_0 := Option.some.inj (hv359_0.symm.trans hx359_0)
        rw [hv359_0] at ge359_0
        have HL359_0 := Aside0.mk (show Kd.R (Kd.int .i64) 3 _ _ _ _ (rd_L5 x3_2 x6_1) from ge359_0)
        clear hv359_0 ge359_0
        have HX359_0 := Aside0.mk hx359_0
        clear hcc359 hce359
        have HR359_0 := Aside0.mk hi359_0
        have HC359_0 := Aside0.mk hl359_0
        clear hi359_0 hl359_0
        replace p359 := eq_true p359
        replace q359 := eq_true q359
        have p360 : 0 ≤ (x8_2 : Int) := of_decide_eq_true aq2
        have q360 : x8_2 < (t349.length : Int) := of_decide_eq_true aq2
        obtain ⟨ad360, e360, hx360_0⟩ := Kd.at_int (Kd.R_reads' HO_5.out).2.2 x8_2 p360 q360
        cases e360
        replace p360 := eq_true p360
        replace q360 := eq_true q360
        obtain ⟨go38, co38, eo38, gb0, gl38, cl38, HG38⟩ := Kd.S_form HO_3.out (by have h_ : (x6_1 : Int) < ((x3_2.length : Int) : Int) := of_decide_eq_true aq2; have h2_ : 0 ≤ (x6_1 : Int) := (of_decide_eq_true aq2); omega)
        (first | cases eo38 | (injection eo38 with ea_ en_ ec_; (first | subst ea_ | (injection ea_ with ea_; subst ea_)); subst ec_; clear en_))
        have GB38 := Aside0.mk gb0
        have GG38 := Aside0.mk HG38
        clear gb0 gl38 HG38
        (first | simp only [add_plain] at hx359_0 | skip)
        obtain ⟨oki38, ce38, hcl38, hM38, hcc38, _, _, hH38⟩ := Kd.S_elem HO_3.out [] (x6_1 : Int) (of_decide_eq_true aq2) (by have h_ : (x6_1 : Int) < ((x3_2.length : Int) : Int) := of_decide_eq_true aq2; first | exact h_ | (have e_ := (Kd.S_reads' HO_3.out).1; omega) | simpa using h_)
        obtain ⟨ve38_0, rfl, ge38_0⟩ := hM38
        have hv38 := hcc38 0 _ rfl
        have hX38 := HX359_0.out
        (try simp only [add_plain] at hX38)
        (try simp only [Nat.add_zero] at hv38)
        (try rw [show ((Kd.slice 3 (Kd.int .i64))).sz = 1 from rfl, Nat.mul_one] at hv38)
        replace hv38 := Option.some.inj (hv38.symm.trans hX38)
        subst hv38
        clear hX38 hcc38 hcl38
        have UU38 := Aside0.mk (show Kd.R (Kd.int .i64) 3 _ w.heap.size oki38 (.slice A359_0 (rd_L5 x3_2 x6_1).length c359_0) (rd_L5 x3_2 x6_1) from ge38_0)
        have HH38 := Aside0.mk hH38
        have HN38 := Aside0.mk (Kd.S_reads' HO_3.out).1
        clear hH38 ge38_0
        refine start_ (n := 14) (S := fun w' => w'.cell? ⟨go38, (x6_1).toNat, none⟩ = some (.slice A359_0 (rd_L5 x3_2 x6_1).length c359_0) ∧ w'.cell? (ad360.add (x8_2).toNat) = some (.int .i64 (rd t349 x8_2))) (ds := [11, 13]) #[false, false, false, false, false, false, false, false, false, false, false, false, false, false] (by kernel_rfl) rfl rfl ⟨hx359_0, hx360_0⟩ (fun hHeld => ?_); refine with_tabW palingref15_Behind.tab17 palingref15_Behind.bits17 (fun HT_ HW_ => ?_)
        generalize wr.drew = w36 at hMs_ HO_3 HO_4 HO_5 HO_7 HB GG38 HH38 HL359_0 HR359_0 HX359_0 UU38 hx359_0 hx360_0 hHeld ⊢
        refine pz (i := 0) (N := some 55) (bz 14 1) rfl rfl ?_
        refine pz (i := 1) (N := some 56) (bz 14 3) rfl rfl ?_
        refine pz (i := 2) (N := some 57) (bz 14 7) rfl rfl ?_
        refine pz (i := 3) (N := some 58) (bz 14 15) rfl rfl ?_
        refine pz (i := 4) (N := some 59) (bz 14 31) rfl rfl ?_
        refine pz (i := 6) (N := some 61) (bz 14 95) rfl rfl ?_
        refine pz (i := 7) (N := some 62) (bz 14 223) rfl rfl ?_
        refine pz (i := 8) (N := some 63) (bz 14 479) rfl rfl ?_
        refine tz2 (i := 5) (N := some 60) (bz 14 511) rfl rfl hHeld ?_
        refine tz2 (i := 9) (N := some 64) (bz 14 1023) rfl rfl hHeld ?_
        refine one_ (i := 10) (N := some 65) #[true, true, true, true, true, true, true, true, true, true, true, false, false, false] rfl rfl (one_of HT_.out (by kernel_rfl)) (by decide) (fun K hK => ?_)
        refine value_ (w1 := ?_) (v := ?_) (by rfl) rfl ?_ ?_
        rotate_left 2
        ·go_simp
         constructor
         ·rfl
         ·rfl
        refine hK.out _ _ ⟨(World.cell?_alloc_lt _ _ _ (World.block_lt_of_cell? _ _ (hHeld.1))).trans (hHeld.1), (World.cell?_alloc_lt _ _ _ (World.block_lt_of_cell? _ _ (hHeld.2))).trans (hHeld.2)⟩ (fun hHeld => ?_)
        clear hK K
        refine norm_ (a' := ?_) ?_ ?_
        rotate_left
        ·show Act.put _ (some 65) _ = _
         simp only [Act.put, List.setIfInBounds_toArray, List.set_cons_zero, List.set_cons_succ, i64_w, i32_w]
         rfl
        refine last_ (i := 11) (N := some 66) #[true, true, true, true, true, true, true, true, true, true, true, true, false, false] rfl rfl (one_of HT_.out (by kernel_rfl)) (by decide) (fun K hK => ?_)
        refine Kd.R_append_step (Kd.int .i64) (w0 := w) w.heap.size (by rfl) (.tmp 60) (.tmp 65) 57 3 (.int .i64 0) 8 rfl Tryd.underlying57 info3 rfl (by decide) (by omega) (.slice A359_0 (rd_L5 x3_2 x6_1).length c359_0) (rd_L5 x3_2 x6_1) (rd t349 x8_2) [.int .i64 (rd t349 x8_2)] (fun k_ => oki38 k_ ∨ ((fun k_ => (some k_ ≠ (v347 : Value).ownBlock ∧ ¬ MID k_) ∧ some k_ ≠ (.slice (some ad360) t349.length co14 : Value).ownBlock ∧ some k_ ≠ (.slice Ao35 t352.length co35 : Value).ownBlock)) k_ ∧ w36.heap.size ≤ k_) (fun _ => False) rfl rfl ?aP (fun _ hk => hk.elim) ?aF ?aO ?aB ?aS ?aL ?_
        (case aP => exact rfl)
        (case aB => exact aq0)
        (case aF => exact (fun k_ hk => .inr ⟨⟨⟨Kd.fresh' (Kd.S_lt aq35) k_ hk, hMs_ k_ hk⟩, Kd.fresh' (Kd.R_lt aq12) k_ hk, Kd.fresh' (Kd.R_lt aq14) k_ hk⟩, hk⟩))
        (case aO => exact (by (with_reducible repeat (first | apply Kd.R_alloc | apply Kd.R_drewN | apply Kd.R_drew)); exact Kd.R_mono UU38.out (fun _ hk => .inl hk)))
        (case aS => exact (below_size aq0))
        (case aL => have := LMc33.out; omega)
        intro v362 w39 ho hb hg hat
        rw [← Ny361.out] at ho
        replace HO_4 := Aside0.mk ((Kd.S_grown aq35 hg (by intro k_ hk e_; exact (HL359_0.out.1 k_ e_.symm).1.1.2 hk.1.2)))
        replace HO_5 := Aside0.mk (Kd.R_grown2 aq12 rfl hg (fun k_ e_ => (HL359_0.out.1 k_ e_).1.2.1))
        replace HO_7 := Aside0.mk (Kd.R_grown2 aq14 rfl hg (fun k_ e_ => (HL359_0.out.1 k_ e_).1.2.2))
        replace HB := Aside0.mk (hb)
        replace HH38 := Aside0.mk (Kd.H_grown (Kd.H_widen (by repeat (first | exact HH38.out | refine Kd.H_alloc ?_ _ | refine Kd.H_drewN ?_ _ | refine Kd.H_drew ?_))) hg (fun k_ e_ => .inl (UU38.out.1 k_ e_)))
        have HO363 := Aside0.mk (ho)
        clear HO_3 UU38 HL359_0 ho hb hg hat
        have p34 : 0 ≤ (x6_1 : Int) := of_decide_eq_true aq2
        have q34 : (x6_1 : Int) < ((x3_2.length : Int) : Int) := of_decide_eq_true aq2
        replace p34 := eq_true p34
        replace q34 := eq_true q34
        obtain ⟨Ao42, co42, eo42⟩ := Kd.R_slice HO363.out
        (first | subst eo42 | (injection eo42 with f1_ f2_ f3_; have f4_ := f1_.symm; have f5_ := f3_.symm; clear f1_ f2_ f3_; subst f4_; subst f5_))
        obtain ⟨_, _, hraw40, _, _, hcc40, _⟩ := Kd.H_raw HH38.out (of_decide_eq_true aq2) (by have h_ : (x6_1 : Int) < ((x3_2.length : Int) : Int) := of_decide_eq_true aq2; first | exact h_ | (have e_ := (HN38.out); omega) | simpa using h_)
        obtain ⟨_, hfr40⟩ := Kd.H_at HH38.out (of_decide_eq_true aq2) (by have h_ : (x6_1 : Int) < ((x3_2.length : Int) : Int) := of_decide_eq_true aq2; first | exact h_ | (have e_ := (HN38.out); omega) | simpa using h_)
        have hx40_0 := hcc40 0 _ rfl
        have hf40_0 := hfr40 0
        (try simp only [Nat.add_zero] at hx40_0 hf40_0)
        (try rw [show ((Kd.slice 3 (Kd.int .i64))).sz = 1 from rfl, Nat.mul_one] at hx40_0)
        (try rw [show ((Kd.slice 3 (Kd.int .i64))).sz = 1 from rfl, Nat.mul_one] at hf40_0)
        have HP40 := Kd.S_seg0 HH38.out (of_decide_eq_true aq2) (by have h_ : (x6_1 : Int) < ((x3_2.length : Int) : Int) := of_decide_eq_true aq2; first | exact h_ | (have e_ := (HN38.out); omega) | simpa using h_) (seg := [.slice Ao42 y361.length co42]) (j := 0) (show 1 ≤ 1 from by decide) (x' := y361) (Kd.M_row HO363.out) (fun _ hk => hk)
        (try simp only [show ((Kd.slice 3 (Kd.int .i64))).sz = 1 from rfl, Nat.mul_one, Nat.add_zero] at HP40)
        clear hcc40 hfr40
        have HS40 := HP40.1
        rw [← Ny364.out] at HS40
        have HQ40 := Aside0.mk HS40
        obtain ⟨_, hgg40⟩ := Kd.R_typed hraw40 go38 rfl
        have GG40_ := Aside0.mk hgg40
        clear HP40 HS40 hgg40
        refine hK.out _ _ ?_
        clear hK K
        refine norm_ (a' := ?_) ?_ ?_
        rotate_left
        ·show Act.put _ (some 66) _ = _
         simp only [Act.put, List.setIfInBounds_toArray, List.set_cons_zero, List.set_cons_succ, i64_w, i32_w]
         rfl
        refine pz (i := 12) (N := some 67) (bz 14 8191) rfl rfl ?_
        refine last_ (i := 13) (N := none) #[true, true, true, true, true, true, true, true, true, true, true, true, true, true] rfl rfl (one_of HT_.out (by kernel_rfl)) (by decide) (fun K hK => ?_)
        refine skip_ (w1 := ?_) (by rfl) rfl ?_ ?_
        rotate_left
        ·go_simp
         rfl
        refine hK.out _ _ ?_
        clear hK K
        refine done_ (done_of HT_.out (by kernel_rfl)) ?_
        try go_wp2
        go_roundg k3
        case measure => have := HK1.out; have := HK2.out; have := HK3.out; omega
        case rel => exact ⟨MID, (y364), (wrap64 (x8_2 + 1)), aq5, H', ⟨aq46⟩, ⟨by (with_reducible repeat (first | apply Kd.S_alloc | apply Kd.S_drewN | apply Kd.S_drew)); exact HQ40.out⟩, ⟨by (with_reducible repeat (first | apply Kd.S_alloc | apply Kd.S_drewN | apply Kd.S_drew)); exact Kd.S_mono (Kd.S_far (p := ⟨go38, (x6_1 : Int).toNat, none⟩) (Kd.S_mono HO_4.out (fun k_ hk => (⟨hk, fun e_ => hk.1.1 (by rw [e_]; rfl)⟩ : _ ∧ k_ ≠ go38))) (fun _ hk => hk.2) (.slice Ao42 y361.length co42)) (fun _ hk => ⟨hk.1.1, ⟨hk.1.2.1, hk.1.2.2⟩⟩)⟩, ⟨by (with_reducible repeat (first | apply Kd.R_alloc | apply Kd.R_drewN | apply Kd.R_drew)); exact Kd.R_mono (Kd.R_far (p := ⟨go38, (x6_1 : Int).toNat, none⟩) (Kd.R_types HO_5.out GG40_.out (by decide)) (fun _ hk => hk.2) (.slice Ao42 y361.length co42)) (fun _ hk => hk.1)⟩, ⟨by (with_reducible repeat (first | apply Kd.R_alloc | apply Kd.R_drewN | apply Kd.R_drew)); exact Kd.R_mono (Kd.R_far (p := ⟨go38, (x6_1 : Int).toNat, none⟩) (Kd.R_types HO_7.out GG40_.out (by decide)) (fun _ hk => hk.2) (.slice Ao42 y361.length co42)) (fun _ hk => hk.1)⟩, ⟨by repeat (first | (with_reducible first | exact HB.out | apply below_alloc | apply pw_below_drewN | apply below_drew1 | refine below_set ?_ GB38.out) | exact HB.out)⟩⟩
       rw [if_pos c15] at H
       have c15b0 : decide (x10_3 < (t352.length : Int)) = true := decide_eq_true c15
       clear c15
       by_cases c16 : x9_3 = true
       ·subst c16
        rw [if_pos rfl] at H
        have H' := Aside0.mk H
        clear H
        obtain ⟨Ao17, co17, eo17⟩ := Kd.R_slice HO_7.out
        subst eo17
        try go_wp2
        replace HO_3 := Aside0.mk (Kd.S_drew HO_3.out)
        replace HO_4 := Aside0.mk (Kd.S_drew HO_4.out)
        replace HO_5 := Aside0.mk (Kd.R_drew HO_5.out)
        replace HO_7 := Aside0.mk (Kd.R_drew HO_7.out)
        replace HB := Aside0.mk (below_drew1 HB.out)
        refine start_ (n := 16) (S := fun w' => True) (ds := []) #[false, false, false, false, false, false, false, false, false, false, false, false, false, false, false, false] (by kernel_rfl) rfl rfl trivial (fun hHeld => ?_); refine with_tabW palingref15_Behind.tab15 palingref15_Behind.bits15 (fun HT_ HW_ => ?_)
        generalize wr.drew = w18 at HO_3 HO_4 HO_5 HO_7 HB hHeld ⊢
        refine pz (i := 0) (N := some 39) (bz 16 1) rfl rfl ?_
        refine pz (i := 1) (N := some 40) (bz 16 3) rfl rfl ?_
        refine pu (i := 2) (N := some 41) (bz 16 7) rfl rfl ?_
        refine pu (i := 3) (N := some 42) (bz 16 15) rfl rfl ?_
        refine pu (i := 4) (N := some 43) (bz 16 31) rfl rfl ?_
        refine pu (i := 5) (N := some 44) (bz 16 63) rfl rfl ?_
        refine pu (i := 6) (N := some 45) (bz 16 127) rfl rfl ?_
        refine pu (i := 7) (N := some 46) (bz 16 255) rfl rfl ?_
        refine pu (i := 8) (N := some 47) (bz 16 511) rfl rfl ?_
        refine pu (i := 9) (N := some 48) (bz 16 1023) rfl rfl ?_
        refine pu (i := 10) (N := some 49) (bz 16 2047) rfl rfl ?_
        refine pu (i := 11) (N := some 50) (bz 16 4095) rfl rfl ?_
        refine pu (i := 12) (N := some 51) (bz 16 8191) rfl rfl ?_
        refine pu (i := 13) (N := some 52) (bz 16 16383) rfl rfl ?_
        refine pz (i := 14) (N := some 53) (bz 16 32767) rfl rfl ?_
        refine pz (i := 15) (N := some 9) (bz 16 65535) rfl rfl ?_
        refine done_ (done_of HT_.out (by kernel_rfl)) ?_
        try go_wp2
        go_roundg k3
        case measure => have := HK1.out; have := HK2.out; have := HK3.out; omega
        case rel => exact ⟨MID, (true), (wrap64 (x10_3 + 1)), aq5, aq5, H', ⟨aq46⟩, ⟨aq30⟩, ⟨aq35⟩, ⟨aq12⟩, ⟨aq14⟩, ⟨aq0⟩⟩
       replace c16 := Bool.eq_false_iff.mpr c16
       subst c16
       rw [if_neg nf_] at H
       by_cases c19 : 0 ≤ x10_3
       rotate_left
       ·rw [if_neg c19] at H
        exact absurd H (by simp)
       rw [if_pos c19] at H
       have c19b0 : decide (0 ≤ x10_3) = true := decide_eq_true c19
       clear c19
       by_cases c20 : 0 ≤ (rd t352 x10_3)
       rotate_left
       ·rw [if_neg c20] at H
        exact absurd H (by simp)
       rw [if_pos c20] at H
       have c20b0 : decide (0 ≤ (rd t352 x10_3)) = true := decide_eq_true c20
       clear c20
       by_cases c21 : (rd t352 x10_3) < (t346.length : Int)
       rotate_left
       ·rw [if_neg c21] at H
        exact absurd H (by simp)
       rw [if_pos c21] at H
       have c21b0 : decide ((rd t352 x10_3) < (t346.length : Int)) = true := decide_eq_true c21
       clear c21
       by_cases c22 : 0 ≤ x8_2
       rotate_left
       ·rw [if_neg c22] at H
        exact absurd H (by simp)
       rw [if_pos c22] at H
       have c22b0 : decide (0 ≤ x8_2) = true := decide_eq_true c22
       clear c22
       by_cases c23 : x8_2 < (t349.length : Int)
       rotate_left
       ·rw [if_neg c23] at H
        exact absurd H (by simp)
       rw [if_pos c23] at H
       have c23b0 : decide (x8_2 < (t349.length : Int)) = true := decide_eq_true c23
       clear c23
       obtain ⟨t358, A24, H⟩ := bS_ H
       have H' := Aside0.mk H
       clear H
       obtain ⟨Ao25, co25, eo25⟩ := Kd.R_slice HO_7.out
       subst eo25
       try go_wp2
       replace HO_3 := Aside0.mk (Kd.S_drew HO_3.out)
       replace HO_4 := Aside0.mk (Kd.S_drew HO_4.out)
       replace HO_5 := Aside0.mk (Kd.R_drew HO_5.out)
       replace HO_7 := Aside0.mk (Kd.R_drew HO_7.out)
       replace HB := Aside0.mk (below_drew1 HB.out)
       have p355 : 0 ≤ (x10_3 : Int) := of_decide_eq_true aq2
       have q355 : x10_3 < (t352.length : Int) := of_decide_eq_true aq2
       obtain ⟨ad355, e355, hx355_0⟩ := Kd.at_int (Kd.R_reads' HO_7.out).2.2 x10_3 p355 q355
       cases e355
       replace p355 := eq_true p355
       replace q355 := eq_true q355
       obtain ⟨Ao27, co27, eo27⟩ := Kd.S_slice HO_4.out
       (first | subst eo27 | (injection eo27 with f1_ f2_ f3_; have f4_ := f1_.symm; have f5_ := f3_.symm; clear f1_ f2_ f3_; subst f4_; subst f5_))
       have p356 : 0 ≤ ((rd t352 x10_3) : Int) := of_decide_eq_true aq2
       have q356 : (rd t352 x10_3) < (t346.length : Int) := of_decide_eq_true aq2
       obtain ⟨ad356, A356_0, c356_0, e356, hx356_0, hl356_0, hi356_0⟩ := at_L5 (Kd.S_reads' HO_4.out).2.2 (rd t352 x10_3) p356 q356
       cases e356
       obtain ⟨ce356, hce356, hMe356, hcc356⟩ := Kd.S_get HO_4.out [] (rd t352 x10_3) p356 (by first | exact q356 | exact of_decide_eq_true aq2 | (have e_ := (Kd.S_reads' HO_4.out).1; omega))
       obtain ⟨ve356_0, rfl, ge356_0⟩ := hMe356
       have hv356_0 := hcc356 0 _ rfl
       rw [Nat.add_zero, show ((Kd.slice 3 (Kd.int .i64))).sz = 1 from rfl, Nat.mul_one] at hv356_0
       replace hv356_0 := Option.some.inj (hv356_0.symm.trans hx356_0)
       rw [hv356_0] at ge356_0
       have HL356_0 := Aside0.mk (show Kd.R (Kd.int .i64) 3 _ _ _ _ (rd_L5 t346 (rd t352 x10_3)) from ge356_0)
       clear hv356_0 ge356_0
       have HX356_0 := Aside0.mk hx356_0
       clear hcc356 hce356
       have HR356_0 := Aside0.mk hi356_0
       have HC356_0 := Aside0.mk hl356_0
       clear hi356_0 hl356_0
       replace p356 := eq_true p356
       replace q356 := eq_true q356
       have p357 : 0 ≤ (x8_2 : Int) := of_decide_eq_true aq2
       have q357 : x8_2 < (t349.length : Int) := of_decide_eq_true aq2
       obtain ⟨ad357, e357, hx357_0⟩ := Kd.at_int (Kd.R_reads' HO_5.out).2.2 x8_2 p357 q357
       cases e357
       replace p357 := eq_true p357
       replace q357 := eq_true q357
       refine start_ (n := 16) (S := fun w' => w'.cell? (ad355.add (x10_3).toNat) = some (.int .i64 (rd t352 x10_3)) ∧ w'.cell? (ad356.add ((rd t352 x10_3)).toNat) = some (.slice A356_0 (rd_L5 t346 (rd t352 x10_3)).length c356_0) ∧ w'.cell? (ad357.add (x8_2).toNat) = some (.int .i64 (rd t349 x8_2))) (ds := []) #[false, false, false, false, false, false, false, false, false, false, false, false, false, false, false, false] (by kernel_rfl) rfl rfl ⟨hx355_0, hx356_0, hx357_0⟩ (fun hHeld => ?_); refine with_tabW palingref15_Behind.tab15 palingref15_Behind.bits15 (fun HT_ HW_ => ?_)
       generalize wr.drew = w26 at HO_3 HO_4 HO_5 HO_7 HB HL356_0 HR356_0 HX356_0 hx355_0 hx356_0 hx357_0 hHeld ⊢
       refine pz (i := 0) (N := some 39) (bz 16 1) rfl rfl ?_
       refine pz (i := 1) (N := some 40) (bz 16 3) rfl rfl ?_
       refine pz (i := 2) (N := some 41) (bz 16 7) rfl rfl ?_
       refine pz (i := 3) (N := some 42) (bz 16 15) rfl rfl ?_
       refine pz (i := 4) (N := some 43) (bz 16 31) rfl rfl ?_
       refine pz (i := 5) (N := some 44) (bz 16 63) rfl rfl ?_
       refine pz (i := 9) (N := some 48) (bz 16 575) rfl rfl ?_
       refine pz (i := 10) (N := some 49) (bz 16 1599) rfl rfl ?_
       refine pz (i := 11) (N := some 50) (bz 16 3647) rfl rfl ?_
       refine tz3 (i := 6) (N := some 45) (bz 16 3711) rfl rfl hHeld ?_
       refine pz (i := 7) (N := some 46) (bz 16 3839) rfl rfl ?_
       refine tz3 (i := 8) (N := some 47) (bz 16 4095) rfl rfl hHeld ?_
       refine tz3 (i := 12) (N := some 51) (bz 16 8191) rfl rfl hHeld ?_
       refine one_ (i := 13) (N := some 52) #[true, true, true, true, true, true, true, true, true, true, true, true, true, true, false, false] rfl rfl (one_of HT_.out (by kernel_rfl)) (by decide) (fun K hK => ?_)
       refine goes_ Tryd.func57 (by kernel_rfl) rfl #[.slice A356_0 (rd_L5 t346 (rd t352 x10_3)).length c356_0, .int .i64 (rd t349 x8_2)] (by rfl) rfl rfl aq4 ?_
       with_reducible refine (palingref15_has.calls k3 _ _ (rd_L5 t346 (rd t352 x10_3)) (rd t349 x8_2) t358 _ ?side1 ?side2 A24.out).mono ?_
       (case side1 => repeat (first | exact (by repeat (first | (with_reducible exact HR356_0.out) | (with_reducible refine Kd.C_alloc ?_ _) | (with_reducible refine Kd.C_drewN ?_ _) | (with_reducible refine Kd.C_drew ?_) | exact HR356_0.out)) | (with_reducible refine Kd.C_alloc ?_ _) | (with_reducible refine Kd.C_drewN ?_ _) | (with_reducible refine Kd.C_drew ?_)))
       (case side2 => exact HC356_0.out)
       rintro e w' ⟨rfl, ⟨nd, rfl⟩⟩
       refine ⟨_, rfl, ?_⟩
       refine hK.out _ _ ⟨hHeld.1, hHeld.2.1, hHeld.2.2⟩ (fun hHeld => ?_)
       clear hK K
       refine norm_ (a' := ?_) ?_ ?_
       rotate_left
       ·show Act.put _ (some 52) _ = _
        simp only [Act.put, List.setIfInBounds_toArray, List.set_cons_zero, List.set_cons_succ, i64_w, i32_w]
        rfl
       refine pz (i := 14) (N := some 53) (bz 16 32767) rfl rfl ?_
       refine pz (i := 15) (N := some 9) (bz 16 65535) rfl rfl ?_
       refine done_ (done_of HT_.out (by kernel_rfl)) ?_
       try go_wp2
       go_roundg k3
       case measure => have := HK1.out; have := HK2.out; have := HK3.out; omega
       case rel => exact ⟨MID, (t358), (wrap64 (x10_3 + 1)), aq5, aq5, H', ⟨aq46⟩, ⟨aq30⟩, ⟨aq35⟩, ⟨aq12⟩, ⟨aq14⟩, ⟨aq0⟩⟩
end Go.Proofs.YtdopacgaklaaeaaDoor.PDeadTells
