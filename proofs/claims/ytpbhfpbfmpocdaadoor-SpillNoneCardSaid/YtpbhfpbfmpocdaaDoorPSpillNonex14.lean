-- Written by print2.py over the kit's printer. Not trusted: Lean checks it.
import Derived.Test.YtpbhfpbfmpocdaaDoorPSpillNonehqq
import Derived.Test.YtpbhfpbfmpocdaaDoorPSpillNonex0
import Derived.Test.YtpbhfpbfmpocdaaDoorPSpillNonex5
import Derived.Test.YtpbhfpbfmpocdaaDoorPSpillNonex12
import Derived.Test.YtpbhfpbfmpocdaaDoorPSpillNonex13
namespace Go.Proofs.YtpbhfpbfmpocdaaDoor.PSpillNone
open Go.RowKit Go.Proofs.YtpbhfpbfmpocdaaDoorW.PrintWords Go.Proofs.YtpbhfpbfmpocdaaDoorW.PrintLast Go.Proofs.YtpbhfpbfmpocdaaDoorW.PrintMore
attribute [local go_sem] max2_int min2_int max_two min_two max_three min_three max_four min_four   -- for this text's walks alone
set_option linter.unusedVariables false
set_option linter.unusedSimpArgs false

/-! ### palingref21_Scan: function 8 -/
mutual
def palingref21_Scan.l0 : Nat → Int → List (S54) → List Int → List Int → Int → Option ((List (S57)))
  | 0, _, _, _, _, _ => none
  | k + 1, x1, x5, x6, x7, x8 => if x8 < (x5.length : Int) then (if 0 ≤ x8 then (if x8 < (x6.length : Int) then (if x8 < (x7.length : Int) then (palingref21_Scan.l0 k x1 x5 (x6.set (x8 : Int).toNat (-1)) (x7.set (x8 : Int).toNat (-1)) (wrap64 (x8 + 1))) else (none)) else (none)) else (none)) else (palingref21_Scan.l1 k x1 x5 x6 x7 0)
def palingref21_Scan.l1 : Nat → Int → List (S54) → List Int → List Int → Int → Option ((List (S57)))
  | 0, _, _, _, _, _ => none
  | k + 1, x1, x5, x6, x7, x9 => if x9 < (x5.length : Int) then (palingref21_Scan.l2 k x1 x5 x6 x7 x9 0) else (palingref21_Scan.l3 k x5 x6 ([] : List (S57)) 0)
def palingref21_Scan.l2 : Nat → Int → List (S54) → List Int → List Int → Int → Int → Option ((List (S57)))
  | 0, _, _, _, _, _, _ => none
  | k + 1, x1, x5, x6, x7, x9, x10 => if x10 < x9 then (if 0 ≤ x10 then (if x10 < (x5.length : Int) then (if 0 ≤ x9 then (if x9 < (x5.length : Int) then (if ((rd_T54 x5 x10).f2) < ((rd_T54 x5 x9).f1) then (if x10 < (x7.length : Int) then (palingref21_Scan.l2 k x1 x5 x6 (x7.set (x10 : Int).toNat (-1)) x9 (wrap64 (x10 + 1))) else (none)) else (palingref21_Scan.l2 k x1 x5 x6 x7 x9 (wrap64 (x10 + 1)))) else (none)) else (none)) else (none)) else (none)) else ((palingref21_free.f k x7 x1).bind fun t432 => (if t432 < 0 then ((palingref21_worst.f k x5 x7 x9).bind fun t433 => (if t433 = x9 then (palingref21_Scan.l1 k x1 x5 x6 x7 (wrap64 (x9 + 1))) else (if 0 ≤ t433 then (if t433 < (x7.length : Int) then (if t433 < (x6.length : Int) then (if 0 ≤ x9 then (if x9 < (x7.length : Int) then (if x9 < (x6.length : Int) then (palingref21_Scan.l1 k x1 x5 ((x6.set (t433 : Int).toNat (-1)).set (x9 : Int).toNat (rd x7 t433)) ((x7.set (t433 : Int).toNat (-1)).set (x9 : Int).toNat (rd x7 t433)) (wrap64 (x9 + 1))) else (none)) else (none)) else (none)) else (none)) else (none)) else (none)))) else (if 0 ≤ x9 then (if x9 < (x7.length : Int) then (if x9 < (x6.length : Int) then (palingref21_Scan.l1 k x1 x5 (x6.set (x9 : Int).toNat t432) (x7.set (x9 : Int).toNat t432) (wrap64 (x9 + 1))) else (none)) else (none)) else (none))))
def palingref21_Scan.l3 : Nat → List (S54) → List Int → List (S57) → Int → Option ((List (S57)))
  | 0, _, _, _, _ => none
  | k + 1, x5, x6, x13, x14 => if x14 < (x5.length : Int) then (palingref21_Scan.l4 k x5 x6 x13 x14 0) else (some x13)
def palingref21_Scan.l4 : Nat → List (S54) → List Int → List (S57) → Int → Int → Option ((List (S57)))
  | 0, _, _, _, _, _ => none
  | k + 1, x5, x6, x13, x14, x15 => if x15 < (x13.length : Int) then (if 0 ≤ x15 then (if 0 ≤ x14 then (if x14 < (x5.length : Int) then (if ((rd_T57 x13 x15).f0) < ((rd_T54 x5 x14).f0) then (palingref21_Scan.l4 k x5 x6 x13 x14 (wrap64 (x15 + 1))) else (if x15 ≤ (x13.length : Int) then ((some (x13.take (x15 : Int).toNat : List (S57))).bind fun y443 => (if ([] : List (S57)).length + y443.length < 8796093022208 then ((some (([] : List (S57)) ++ y443 : List (S57))).bind fun y447 => (if x14 < (x6.length : Int) then (if y447.length < 8796093022208 then ((some (y447 ++ [(⟨(rd_T54 x5 x14).f0, rd x6 x14⟩ : S57)] : List (S57))).bind fun y452 => ((some (x13.drop (x15 : Int).toNat : List (S57))).bind fun y455 => (if y452.length + y455.length < 8796093022208 then (palingref21_Scan.l3 k x5 x6 (y452 ++ y455) (wrap64 (x14 + 1))) else (none)))) else (none)) else (none))) else (none))) else (none))) else (none)) else (none)) else (none)) else (if 0 ≤ x15 then (if x15 ≤ (x13.length : Int) then ((some (x13.take (x15 : Int).toNat : List (S57))).bind fun y462 => (if ([] : List (S57)).length + y462.length < 8796093022208 then ((some (([] : List (S57)) ++ y462 : List (S57))).bind fun y466 => (if 0 ≤ x14 then (if x14 < (x5.length : Int) then (if x14 < (x6.length : Int) then (if y466.length < 8796093022208 then ((some (y466 ++ [(⟨(rd_T54 x5 x14).f0, rd x6 x14⟩ : S57)] : List (S57))).bind fun y471 => ((some (x13.drop (x15 : Int).toNat : List (S57))).bind fun y474 => (if y471.length + y474.length < 8796093022208 then (palingref21_Scan.l3 k x5 x6 (y471 ++ y474) (wrap64 (x14 + 1))) else (none)))) else (none)) else (none)) else (none)) else (none))) else (none))) else (none)) else (none))
end
def palingref21_Scan.f (k : Nat) (l0 : List (S48)) (a1 : Int) : Option ((List (S57))) := if a1 < 1 then (some ([] : List (S57))) else ((palingref15_Ranges.f k l0).bind fun t415 => ((palingref21_order.f k t415).bind fun t418 => (if 0 ≤ (t418.length : Int) then (if ((t418.length : Int) : Int).toNat ≤ 35184372088832 then (palingref21_Scan.l0 k a1 t418 (List.replicate ((t418.length : Int) : Int).toNat 0) (List.replicate ((t418.length : Int) : Int).toNat 0) 0) else (none)) else (none))))
theorem palingref21_Scan.mono_l : ∀ k, (∀ y0 y1 y2 y3 y4, LeO (palingref21_Scan.l0 k y0 y1 y2 y3 y4) (palingref21_Scan.l0 (k + 1) y0 y1 y2 y3 y4)) ∧ (∀ y0 y1 y2 y3 y4, LeO (palingref21_Scan.l1 k y0 y1 y2 y3 y4) (palingref21_Scan.l1 (k + 1) y0 y1 y2 y3 y4)) ∧ (∀ y0 y1 y2 y3 y4 y5, LeO (palingref21_Scan.l2 k y0 y1 y2 y3 y4 y5) (palingref21_Scan.l2 (k + 1) y0 y1 y2 y3 y4 y5)) ∧ (∀ y0 y1 y2 y3, LeO (palingref21_Scan.l3 k y0 y1 y2 y3) (palingref21_Scan.l3 (k + 1) y0 y1 y2 y3)) ∧ (∀ y0 y1 y2 y3 y4, LeO (palingref21_Scan.l4 k y0 y1 y2 y3 y4) (palingref21_Scan.l4 (k + 1) y0 y1 y2 y3 y4))
  | 0 => ⟨fun _ _ _ _ _ r h => by simp [palingref21_Scan.l0] at h, fun _ _ _ _ _ r h => by simp [palingref21_Scan.l1] at h, fun _ _ _ _ _ _ r h => by simp [palingref21_Scan.l2] at h, fun _ _ _ _ r h => by simp [palingref21_Scan.l3] at h, fun _ _ _ _ _ r h => by simp [palingref21_Scan.l4] at h⟩
  | k + 1 => by
    obtain ⟨ih0, ih1, ih2, ih3, ih4⟩ := palingref21_Scan.mono_l k
    refine ⟨?_, ?_, ?_, ?_, ?_⟩ <;> intros <;> (first | unfold palingref21_Scan.l0 | unfold palingref21_Scan.l1 | unfold palingref21_Scan.l2 | unfold palingref21_Scan.l3 | unfold palingref21_Scan.l4) <;> repeat' (first | (with_reducible first | exact ih0 _ _ _ _ _ | exact ih1 _ _ _ _ _ | exact ih2 _ _ _ _ _ _ | exact ih3 _ _ _ _ | exact ih4 _ _ _ _ _ | exact palingref15_Ranges.mono _ _ | exact palingref21_free.mono _ _ _ | exact palingref21_order.mono _ _ | exact palingref21_worst.mono _ _ _ _ | exact LeO.refl _ | exact LeO.none _ | refine LeO.ite ?_ ?_ | refine LeO.bind ?_ (fun _ => ?_)) | exact ih0 _ _ _ _ _ | exact ih1 _ _ _ _ _ | exact ih2 _ _ _ _ _ _ | exact ih3 _ _ _ _ | exact ih4 _ _ _ _ _ | exact palingref15_Ranges.mono _ _ | exact palingref21_free.mono _ _ _ | exact palingref21_order.mono _ _ | exact palingref21_worst.mono _ _ _ _ | exact LeO.none _ | refine LeO.ite ?_ ?_ | refine LeO.bind ?_ (fun _ => ?_))
theorem palingref21_Scan.mono : ∀ a0 a1 k, LeO (palingref21_Scan.f k a0 a1) (palingref21_Scan.f (k + 1) a0 a1) := by
 intro a0 a1 k
 obtain ⟨ih0, ih1, ih2, ih3, ih4⟩ := palingref21_Scan.mono_l k
 unfold palingref21_Scan.f
 repeat' (first | (with_reducible first | exact ih0 _ _ _ _ _ | exact ih1 _ _ _ _ _ | exact ih2 _ _ _ _ _ _ | exact ih3 _ _ _ _ | exact ih4 _ _ _ _ _ | exact palingref15_Ranges.mono _ _ | exact palingref21_free.mono _ _ _ | exact palingref21_order.mono _ _ | exact palingref21_worst.mono _ _ _ _ | exact LeO.refl _ | exact LeO.none _ | refine LeO.ite ?_ ?_ | refine LeO.bind ?_ (fun _ => ?_)) | exact ih0 _ _ _ _ _ | exact ih1 _ _ _ _ _ | exact ih2 _ _ _ _ _ _ | exact ih3 _ _ _ _ | exact ih4 _ _ _ _ _ | exact palingref15_Ranges.mono _ _ | exact palingref21_free.mono _ _ _ | exact palingref21_order.mono _ _ | exact palingref21_worst.mono _ _ _ _ | exact LeO.none _ | refine LeO.ite ?_ ?_ | refine LeO.bind ?_ (fun _ => ?_))
def palingref21_Scan.T17 : Bool × List (List Nat × List Nat) := (true, [([], []), ([], []), ([0, 1], [0, 1]), ([2], [2]), ([3], [3]), ([], []), ([], []), ([5, 6], [5, 6]), ([7], [7]), ([8], [8]), ([4, 9], [4, 9])])
def palingref21_Scan.B17 : List Nat := [0, 0, 3, 7, 15, 0, 0, 96, 224, 480, 1023]
theorem palingref21_Scan.tab17 : rtab .any (opsOf Tryd.f8 17) = palingref21_Scan.T17 := by kernel_rfl
theorem palingref21_Scan.bits17 : waitsOk palingref21_Scan.T17.2 palingref21_Scan.B17 = true := by kernel_rfl
def palingref21_Scan.T33 : Bool × List (List Nat × List Nat) := (true, [([], []), ([], []), ([1], [1]), ([0, 2], [0, 2]), ([3], [3]), ([4], [4]), ([4], [4]), ([5, 6, 4], [4, 5, 6]), ([7, 4], [4, 7]), ([8, 4], [4, 8]), ([4], [4]), ([4], [4]), ([10, 11, 4], [4, 10, 11]), ([12, 4], [4, 12]), ([13, 4], [4, 13]), ([9, 14, 4], [4, 9, 14]), ([4, 15], [4, 15])])
def palingref21_Scan.B33 : List Nat := [0, 0, 2, 7, 15, 31, 31, 127, 255, 511, 31, 31, 3103, 7199, 15391, 32767, 65535]
theorem palingref21_Scan.tab33 : rtab .any (opsOf Tryd.f8 33) = palingref21_Scan.T33 := by kernel_rfl
theorem palingref21_Scan.bits33 : waitsOk palingref21_Scan.T33.2 palingref21_Scan.B33 = true := by kernel_rfl
def palingref21_Scan.T37 : Bool × List (List Nat × List Nat) := (true, [([], []), ([], []), ([], []), ([1, 2], [1, 2]), ([3], [3]), ([4], [4]), ([], []), ([], []), ([6, 7], [6, 7]), ([8], [8]), ([5, 9], [5, 9]), ([10], [10]), ([0, 11], [0, 11]), ([12, 12, 0, 1, 2, 3, 4, 5, 6, 7, 8, 9, 10, 11, 12], [0, 12])])
def palingref21_Scan.B37 : List Nat := [0, 0, 0, 6, 14, 30, 0, 0, 192, 448, 1022, 2046, 4095, 8191]
theorem palingref21_Scan.tab37 : rtab .any (opsOf Tryd.f8 37) = palingref21_Scan.T37 := by kernel_rfl
theorem palingref21_Scan.bits37 : waitsOk palingref21_Scan.T37.2 palingref21_Scan.B37 = true := by kernel_rfl
set_option maxHeartbeats 8000000 in
set_option maxRecDepth 100000 in
theorem palingref21_Scan.calls (k : Nat) (A0 : Option Addr) (c0 : Nat) (l0 : List (S48)) (a1 : Int) (r : List (S57)) (w : World) (hr0 : Kd.C k48 w A0 l0.length l0) (hc0 : l0.length ≤ c0) (h : palingref21_Scan.f k l0 a1 = some r) :
    Calls Tryd.prog 8 #[.slice A0 l0.length c0, .int .i64 a1] w fun e w' => ∃ v0_ : Value, e = .returned (v0_) ∧ Kd.R k57 57 w' w.heap.size (fun _ => True) v0_ r ∧ Below w.heap.size w w' := by
 have hu57 := Tryd.underlying57
 have HR0 := Aside0.mk hr0
 have HC0 := Aside0.mk hc0
 clear hr0 hc0
 have HB := Aside0.mk (Below.refl w.heap.size w)
 have H : (if a1 < 1 then (some ([] : List (S57))) else ((palingref15_Ranges.f k l0).bind fun t415 => ((palingref21_order.f k t415).bind fun t418 => (if 0 ≤ (t418.length : Int) then (if ((t418.length : Int) : Int).toNat ≤ 35184372088832 then (palingref21_Scan.l0 k a1 t418 (List.replicate ((t418.length : Int) : Int).toNat 0) (List.replicate ((t418.length : Int) : Int).toNat 0) 0) else (none)) else (none))))) = some r := h
 clear h
 by_cases c3 : a1 < 1
 ·rw [if_pos c3] at H
  have c3b0 : decide (a1 < 1) = true := decide_eq_true c3
  clear c3
  obtain rfl := Option.some.inj H
  go_enter Tryd.func8, Tryd.ntmps8
  go_wp2
  go_ret
  exact ⟨_, aq13, aq22, aq0⟩
 rw [if_neg c3] at H
 have c3b0 : decide (a1 < 1) = false := decide_eq_false c3
 clear c3
 obtain ⟨t415, A4, H⟩ := bS_ H
 obtain ⟨t418, A5, H⟩ := bS_ H
 by_cases c6 : 0 ≤ (t418.length : Int)
 rotate_left
 ·rw [if_neg c6] at H
  exact absurd H (by simp)
 rw [if_pos c6] at H
 have c6b0 := eq_true c6
 have c6b1 : decide (0 ≤ (t418.length : Int)) = true := decide_eq_true c6
 clear c6
 by_cases c7 : ((t418.length : Int) : Int).toNat ≤ 35184372088832
 rotate_left
 ·rw [if_neg c7] at H
  exact absurd H (by simp)
 rw [if_pos c7] at H
 have c7b0 := eq_true c7
 have c7b1 : decide (((t418.length : Int) : Int).toNat ≤ 35184372088832) = true := decide_eq_true c7
 clear c7
 obtain ⟨y421, hy_⟩ : ∃ y_ : List Int, y_ = (List.replicate ((t418.length : Int) : Int).toNat 0) := ⟨_, rfl⟩
 replace H : (palingref21_Scan.l0 k a1 t418 y421 (List.replicate ((t418.length : Int) : Int).toNat 0) 0) = some r := aq3
 have Ny421 := Aside0.mk hy_
 clear hy_
 obtain ⟨y424, hy_⟩ : ∃ y_ : List Int, y_ = (List.replicate ((t418.length : Int) : Int).toNat 0) := ⟨_, rfl⟩
 replace H : (palingref21_Scan.l0 k a1 t418 y421 y424 0) = some r := aq3
 have Ny424 := Aside0.mk hy_
 clear hy_
 have H' := Aside0.mk H
 clear H
 go_enter Tryd.func8, Tryd.ntmps8
 go_wp2_with (first | ((with_reducible refine gate_callee (f := 19) rfl ?_); refine goesL_ (some 20) rfl rfl Tryd.func19 (by kernel_rfl) rfl #[.slice A0 l0.length c0] rfl aq8 ?_; (with_reducible refine (palingref15_Ranges.calls k _ _ l0 t415 _ ?side1 ?side2 A4.out).mono ?_); (case side1 => repeat (first | exact HR0.out | (with_reducible refine Kd.C_alloc ?_ _) | (with_reducible refine Kd.C_drewN ?_ _) | (with_reducible refine Kd.C_drew ?_))); (case side2 => exact HC0.out); rintro e w8 ⟨v416, rfl, ho0, hb⟩; refine ⟨_, rfl, ?_⟩; have HO417 := Aside0.mk (Kd.R_lower ho0 (below_size aq0)); replace HB := Aside0.mk (below_step aq0 hb); (try clear hb); (try clear hb2); (try clear hk); (try clear hi); (try clear ho0); obtain ⟨Ao9, co9, eo9⟩ := Kd.R_slice HO417.out; subst eo9) | ((with_reducible refine gate_callee (f := 18) rfl ?_); refine goesL_ (some 21) rfl rfl Tryd.func18 (by kernel_rfl) rfl #[.slice Ao9 t415.length co9] rfl aq8 ?_; (with_reducible refine (palingref21_order.calls k _ _ t415 t418 _ ?side1 ?side2 A5.out).mono ?_); (case side1 => repeat (first | exact (Kd.R_reads' HO417.out).2.2 | (with_reducible refine Kd.C_alloc ?_ _) | (with_reducible refine Kd.C_drewN ?_ _) | (with_reducible refine Kd.C_drew ?_))); (case side2 => exact (Kd.R_reads' HO417.out).2.1); rintro e w10 ⟨v419, rfl, ho0, hb⟩; refine ⟨_, rfl, ?_⟩; have HO420 := Aside0.mk (Kd.R_lower (Kd.R_new' ho0 (Kd.R_lt aq57)) (below_size aq0)); replace HO417 := Aside0.mk (Kd.R_elder' aq57 (Kd.R_base ho0) hb); replace HB := Aside0.mk (below_step aq0 hb); (try clear hb); (try clear hb2); (try clear hk); (try clear hi); (try clear ho0); obtain ⟨Ao11, co11, eo11⟩ := Kd.R_slice HO420.out; subst eo11) | ((with_reducible refine gate_dst (N := 24) rfl ?_); refine Kd.R_make (Kd.int .i64) _ 3 rfl (N := 24) rfl 23 _ _ rfl (t418.length : Int) rfl rfl Tryd.underlying23 (.int .i64 0) 8 info3 rfl (by decide) (by omega) 0 (ok := fun _ => True) (okp := fun _ => True) rfl (fun _ hk => hk) trivial (of_decide_eq_true aq2) (Nat.le_trans (Nat.mul_le_mul_right _ (of_decide_eq_true aq2 : (t418.length : Int).toNat ≤ 35184372088832)) (by omega)) (Below.refl _ _) (Nat.le_refl _) ?_; intro v422 w12 ho13 hb hg_ hnew_; clear hg_ hnew_; (first | rw [← Ny421.out] at ho13 | (simp only [Int.reduceToNat] at ho13; rw [← Ny421.out] at ho13)); replace HO417 := Aside0.mk (Kd.R_below aq57 hb); replace HO420 := Aside0.mk (Kd.R_below (by (with_reducible repeat (first | apply Kd.R_alloc | apply Kd.R_drewN | apply Kd.R_drew)); exact HO420.out) hb); have HO423 := Aside0.mk (Kd.R_lower ho13 (below_size aq0)); replace HB := Aside0.mk (below_step aq0 hb); clear hb ho13) | ((with_reducible refine gate_dst (N := 27) rfl ?_); refine Kd.R_make (Kd.int .i64) _ 3 rfl (N := 27) rfl 23 _ _ rfl (t418.length : Int) rfl rfl Tryd.underlying23 (.int .i64 0) 8 info3 rfl (by decide) (by omega) 0 (ok := fun _ => True) (okp := fun _ => True) rfl (fun _ hk => hk) trivial (of_decide_eq_true aq2) (Nat.le_trans (Nat.mul_le_mul_right _ (of_decide_eq_true aq2 : (t418.length : Int).toNat ≤ 35184372088832)) (by omega)) (Below.refl _ _) (Nat.le_refl _) ?_; intro v425 w14 ho15 hb hg_ hnew_; clear hg_ hnew_; (first | rw [← Ny424.out] at ho15 | (simp only [Int.reduceToNat] at ho15; rw [← Ny424.out] at ho15)); replace HO417 := Aside0.mk (Kd.R_below aq57 hb); replace HO420 := Aside0.mk (Kd.R_below (by (with_reducible repeat (first | apply Kd.R_alloc | apply Kd.R_drewN | apply Kd.R_drew)); exact HO420.out) hb); have HO426 := Aside0.mk (Kd.R_lower (Kd.R_new' ho15 (Kd.R_lt (by (with_reducible repeat (first | apply Kd.R_alloc | apply Kd.R_drewN | apply Kd.R_drew)); exact HO423.out))) (below_size aq0)); replace HO423 := Aside0.mk (Kd.R_elder' (by (with_reducible repeat (first | apply Kd.R_alloc | apply Kd.R_drewN | apply Kd.R_drew)); exact HO423.out) (Kd.R_base ho15) hb); replace HB := Aside0.mk (below_step aq0 hb); clear hb ho15))
 go_loopg [8] k (fun kq v8 w' => ∃ (x6_1 : List Int) (x7_1 : List Int) (x8_1 : Int), v8 = .int .i64 x8_1 ∧ Aside0 (palingref21_Scan.l0 kq a1 t418 x6_1 x7_1 x8_1 = some r) ∧ Aside0 (kq ≤ k) ∧ Aside0 (Kd.R k54 54 w' w.heap.size (fun _ => True) (.slice Ao11 t418.length co11) t418) ∧ Aside0 (Kd.R (Kd.int .i64) 3 w' w.heap.size (fun k_ => some k_ ≠ (v425 : Value).ownBlock) v422 x6_1) ∧ Aside0 (Kd.R (Kd.int .i64) 3 w' w.heap.size (fun k_ => some k_ ≠ (v422 : Value).ownBlock) v425 x7_1) ∧ Aside0 (Below w.heap.size w w'))
 case atStart => exact ⟨(y421), (y424), (0), aq7, H', ⟨Nat.le_refl _⟩, ⟨by (with_reducible repeat (first | apply Kd.R_alloc | apply Kd.R_drewN | apply Kd.R_drew)); exact Kd.R_mono HO420.out (fun _ hk => trivial)⟩, ⟨by (with_reducible repeat (first | apply Kd.R_alloc | apply Kd.R_drewN | apply Kd.R_drew)); exact Kd.R_mono HO423.out (fun _ hk => hk.2)⟩, ⟨by (with_reducible repeat (first | apply Kd.R_alloc | apply Kd.R_drewN | apply Kd.R_drew)); exact Kd.R_mono HO426.out (fun _ hk => hk.2)⟩, ⟨aq0⟩⟩
 case round =>
  clear H'
  obtain ⟨x6_1, x7_1, x8_1, rfl, HA, HK1, HO_5, HO_6, HO_7, HB⟩ := hrel
  cases gk with
  | zero => exact absurd HA.out (by simp [palingref21_Scan.l0])
  | succ k1 =>
   have H := HA.out
   clear HA
   simp only [palingref21_Scan.l0] at H
   by_cases c16 : x8_1 < (t418.length : Int)
   ·rw [if_pos c16] at H
    have c16b0 : decide (x8_1 < (t418.length : Int)) = true := decide_eq_true c16
    clear c16
    by_cases c17 : 0 ≤ x8_1
    rotate_left
    ·rw [if_neg c17] at H
     exact absurd H (by simp)
    rw [if_pos c17] at H
    have c17b0 : decide (0 ≤ x8_1) = true := decide_eq_true c17
    clear c17
    by_cases c18 : x8_1 < (x6_1.length : Int)
    rotate_left
    ·rw [if_neg c18] at H
     exact absurd H (by simp)
    rw [if_pos c18] at H
    have c18b0 : decide (x8_1 < (x6_1.length : Int)) = true := decide_eq_true c18
    clear c18
    obtain ⟨y427, hy_⟩ : ∃ y_ : List Int, y_ = (x6_1.set (x8_1 : Int).toNat (-1)) := ⟨_, rfl⟩
    replace H : (if x8_1 < (x7_1.length : Int) then (palingref21_Scan.l0 k1 a1 t418 y427 (x7_1.set (x8_1 : Int).toNat (-1)) (wrap64 (x8_1 + 1))) else (none)) = some r := aq3
    have Ny427 := Aside0.mk hy_
    clear hy_
    by_cases c20 : x8_1 < (x7_1.length : Int)
    rotate_left
    ·rw [if_neg c20] at H
     exact absurd H (by simp)
    rw [if_pos c20] at H
    have c20b0 : decide (x8_1 < (x7_1.length : Int)) = true := decide_eq_true c20
    clear c20
    obtain ⟨y428, hy_⟩ : ∃ y_ : List Int, y_ = (x7_1.set (x8_1 : Int).toNat (-1)) := ⟨_, rfl⟩
    replace H : (palingref21_Scan.l0 k1 a1 t418 y427 y428 (wrap64 (x8_1 + 1))) = some r := aq3
    have Ny428 := Aside0.mk hy_
    clear hy_
    have H' := Aside0.mk H
    clear H
    have p19 : 0 ≤ (x8_1 : Int) := of_decide_eq_true aq2
    have q19 : (x8_1 : Int) < ((x6_1.length : Int) : Int) := of_decide_eq_true aq2
    obtain ⟨go19, co19, eo19, gb0, gl19, cl19, HG19⟩ := Kd.R_form HO_6.out (by omega)
    (first | cases eo19 | (injection eo19 with ea_ en_ ec_; (first | subst ea_ | (injection ea_ with ea_; subst ea_)); subst ec_; clear en_))
    have GB19 := Aside0.mk gb0
    have GG19 := Aside0.mk HG19
    clear gb0 gl19 HG19
    obtain ⟨hx19_0, hf19_0⟩ := Kd.R_celln 0 HO_6.out (x8_1 : Int) p19 q19
    replace p19 := eq_true p19
    replace q19 := eq_true q19
    have HP22 := Kd.R_putg HO_6.out (x8_1 : Int) (-1)
    go_wp2_with (first | ((with_reducible refine gate_store (t := 3) (p := 36) rfl ?_); refine store_event (t := 3) (p := 36) (v := ?vo_w23) (w1 := (wr.setCell ⟨go19, (x8_1 : Int).toNat, none⟩ (.int .i64 (-1)))) ?hg ?ho ?hn ?hr ?_; (case ho => rfl); (case hg => rfl); (case hn => rfl); (case hr => first | (go_simp; done) | (go_simp; rfl)); intro w23 hw; have hg : wr.grownBy w23 (some go19) := (by rw [hw]; exact HP22.2); have hp_ : Kd.R (Kd.int .i64) 3 w23 w.heap.size (fun k_ => some k_ ≠ (v425 : Value).ownBlock) (.slice (some ⟨go19, 0, none⟩) x6_1.length co19) y427 := (by rw [hw, Ny427.out]; exact HP22.1); clear HP22; replace HO_5 := Aside0.mk (Kd.R_over' (v := (.slice (some ⟨go19, 0, none⟩) x6_1.length co19)) aq10 (Kd.R_typed HO_6.out) (by decide) hg); replace HO_6 := Aside0.mk (hp_); replace HO_7 := Aside0.mk (Kd.R_after (v := (.slice (some ⟨go19, 0, none⟩) x6_1.length co19)) (v1 := (.slice (some ⟨go19, 0, none⟩) x6_1.length co19)) (ok := (fun _ => True)) aq46 hg (.inl rfl)); replace HB := Aside0.mk ((by rw [hw]; exact below_set (HB.out) GB19.out : Below w.heap.size w w23)); clear hg hw hp_; have p21 : 0 ≤ (x8_1 : Int) := of_decide_eq_true aq2; have q21 : (x8_1 : Int) < ((x7_1.length : Int) : Int) := of_decide_eq_true aq2; obtain ⟨go21, co21, eo21, gb1, gl21, cl21, HG21⟩ := Kd.R_form HO_7.out (by omega); (first | cases eo21 | (injection eo21 with ea_ en_ ec_; (first | subst ea_ | (injection ea_ with ea_; subst ea_)); subst ec_; clear en_)); have GB21 := Aside0.mk gb1; have GG21 := Aside0.mk HG21; clear gb1 gl21 HG21; obtain ⟨hx21_0, hf21_0⟩ := Kd.R_celln 0 HO_7.out (x8_1 : Int) p21 q21; replace p21 := eq_true p21; replace q21 := eq_true q21; have n_ := Aside0.mk (Kd.R_mono (ok' := (fun k_ => some k_ ≠ (.slice (some ⟨go19, 0, none⟩) x6_1.length co19 : Value).ownBlock)) HO_7.out (fun k_ hk => hk.2)); clear HO_7; have HO_7 := n_; clear n_; obtain ⟨hy24_, hz24_⟩ := Kd.R_celln 0 HO_7.out (x8_1 : Int) (of_decide_eq_true aq2) (of_decide_eq_true aq2); have HP24 := Kd.R_putg HO_7.out (x8_1 : Int) (-1)) | ((with_reducible refine gate_store (t := 3) (p := 39) rfl ?_); refine store_event (t := 3) (p := 39) (v := ?vo_w25) (w1 := (w23.setCell ⟨go21, (x8_1 : Int).toNat, none⟩ (.int .i64 (-1)))) ?hg ?ho ?hn ?hr ?_; (case ho => rfl); (case hg => rfl); (case hn => rfl); (case hr => first | (go_simp; done) | (go_simp; rfl)); intro w25 hw; have hg : w23.grownBy w25 (some go21) := (by rw [hw]; exact HP24.2); have hp_ : Kd.R (Kd.int .i64) 3 w25 w.heap.size (fun k_ => some k_ ≠ (.slice (some ⟨go19, 0, none⟩) x6_1.length co19 : Value).ownBlock) (.slice (some ⟨go21, 0, none⟩) x7_1.length co21) y428 := (by rw [hw, Ny428.out]; exact HP24.1); clear HP24; replace HO_5 := Aside0.mk (Kd.R_over' (v := (.slice (some ⟨go21, 0, none⟩) x7_1.length co21)) aq10 (Kd.R_typed HO_7.out) (by decide) hg); replace HO_6 := Aside0.mk (Kd.R_after (v := (.slice (some ⟨go21, 0, none⟩) x7_1.length co21)) (v1 := (.slice (some ⟨go21, 0, none⟩) x7_1.length co21)) (ok := (fun _ => True)) aq47 hg (.inl rfl)); replace HO_7 := Aside0.mk (hp_); replace HB := Aside0.mk ((by rw [hw]; exact below_set (HB.out) GB21.out : Below w.heap.size w w25)); clear hg hw hp_))
    go_roundg k1
    case measure => have := HK1.out; omega
    case rel => exact ⟨(y427), (y428), (wrap64 (x8_1 + 1)), aq7, H', ⟨aq55⟩, ⟨aq10⟩, ⟨by (with_reducible repeat (first | apply Kd.R_alloc | apply Kd.R_drewN | apply Kd.R_drew)); exact Kd.R_mono HO_6.out (fun _ hk => hk.2)⟩, ⟨aq18⟩, ⟨aq0⟩⟩
   rw [if_neg c16] at H
   have c16b0 : decide (x8_1 < (t418.length : Int)) = false := decide_eq_false c16
   clear c16
   have H' := Aside0.mk H
   clear H
   go_wp2
   go_loopg [9] k1 (fun kq v9 w' => ∃ (x6_2 : List Int) (x7_2 : List Int) (x9_2 : Int), v9 = .int .i64 x9_2 ∧ Aside0 (palingref21_Scan.l1 kq a1 t418 x6_2 x7_2 x9_2 = some r) ∧ Aside0 (kq ≤ k1) ∧ Aside0 (Kd.R k54 54 w' w.heap.size (fun _ => True) (.slice Ao11 t418.length co11) t418) ∧ Aside0 (Kd.R (Kd.int .i64) 3 w' w.heap.size (fun k_ => some k_ ≠ (v425 : Value).ownBlock) v422 x6_2) ∧ Aside0 (Kd.R (Kd.int .i64) 3 w' w.heap.size (fun k_ => some k_ ≠ (v422 : Value).ownBlock) v425 x7_2) ∧ Aside0 (Below w.heap.size w w'))
   case atStart => exact ⟨(x6_1), (x7_1), (0), aq7, H', ⟨Nat.le_refl _⟩, ⟨aq10⟩, ⟨aq14⟩, ⟨aq18⟩, ⟨aq0⟩⟩
   case round =>
    clear H'
    try clear hf2
    try clear hf19
    try clear hf21
    obtain ⟨x6_2, x7_2, x9_2, rfl, HA, HK2, HO_5, HO_6, HO_7, HB⟩ := hrel
    cases gk with
    | zero => exact absurd HA.out (by simp [palingref21_Scan.l1])
    | succ k2 =>
     have H := HA.out
     clear HA
     simp only [palingref21_Scan.l1] at H
     by_cases c26 : x9_2 < (t418.length : Int)
     ·rw [if_pos c26] at H
      have c26b0 : decide (x9_2 < (t418.length : Int)) = true := decide_eq_true c26
      clear c26
      have H' := Aside0.mk H
      clear H
      go_wp2
      go_loopg [10] k2 (fun kq v10 w' => ∃ (x7_3 : List Int) (x10_3 : Int), v10 = .int .i64 x10_3 ∧ Aside0 (palingref21_Scan.l2 kq a1 t418 x6_2 x7_3 x9_2 x10_3 = some r) ∧ Aside0 (kq ≤ k2) ∧ Aside0 (Kd.R k54 54 w' w.heap.size (fun _ => True) (.slice Ao11 t418.length co11) t418) ∧ Aside0 (Kd.R (Kd.int .i64) 3 w' w.heap.size (fun k_ => some k_ ≠ (v425 : Value).ownBlock) v422 x6_2) ∧ Aside0 (Kd.R (Kd.int .i64) 3 w' w.heap.size (fun k_ => some k_ ≠ (v422 : Value).ownBlock) v425 x7_3) ∧ Aside0 (Below w.heap.size w w'))
      case atStart => exact ⟨(x7_2), (0), aq7, H', ⟨Nat.le_refl _⟩, ⟨aq10⟩, ⟨aq14⟩, ⟨aq18⟩, ⟨aq0⟩⟩
      case round =>
       clear H'
       try clear hf2
       try clear hf19
       try clear hf21
       obtain ⟨x7_3, x10_3, rfl, HA, HK3, HO_5, HO_6, HO_7, HB⟩ := hrel
       cases gk with
       | zero => exact absurd HA.out (by simp [palingref21_Scan.l2])
       | succ k3 =>
        have H := HA.out
        clear HA
        simp only [palingref21_Scan.l2] at H
        by_cases c27 : x10_3 < x9_2
        ·rw [if_pos c27] at H
         have c27b0 : decide (x10_3 < x9_2) = true := decide_eq_true c27
         clear c27
         by_cases c28 : 0 ≤ x10_3
         rotate_left
         ·rw [if_neg c28] at H
          exact absurd H (by simp)
         rw [if_pos c28] at H
         have c28b0 : decide (0 ≤ x10_3) = true := decide_eq_true c28
         clear c28
         by_cases c29 : x10_3 < (t418.length : Int)
         rotate_left
         ·rw [if_neg c29] at H
          exact absurd H (by simp)
         rw [if_pos c29] at H
         have c29b0 : decide (x10_3 < (t418.length : Int)) = true := decide_eq_true c29
         clear c29
         by_cases c30 : 0 ≤ x9_2
         rotate_left
         ·rw [if_neg c30] at H
          exact absurd H (by simp)
         rw [if_pos c30] at H
         have c30b0 : decide (0 ≤ x9_2) = true := decide_eq_true c30
         clear c30
         by_cases c31 : x9_2 < (t418.length : Int)
         rotate_left
         ·rw [if_neg c31] at H
          exact absurd H (by simp)
         rw [if_pos c31] at H
         have c31b0 : decide (x9_2 < (t418.length : Int)) = true := decide_eq_true c31
         clear c31
         by_cases c32 : ((rd_T54 t418 x10_3).f2) < ((rd_T54 t418 x9_2).f1)
         rotate_left
         ·rw [if_neg c32] at H
          have c32b0 : decide (((rd_T54 t418 x10_3).f2) < ((rd_T54 t418 x9_2).f1)) = false := decide_eq_false c32
          clear c32
          have H' := Aside0.mk H
          clear H
          try go_wp2
          replace HO_5 := Aside0.mk (Kd.R_drew HO_5.out)
          replace HO_6 := Aside0.mk (Kd.R_drew HO_6.out)
          replace HO_7 := Aside0.mk (Kd.R_drew HO_7.out)
          replace HB := Aside0.mk (below_drew1 HB.out)
          have p429 : 0 ≤ (x10_3 : Int) := of_decide_eq_true aq2
          have q429 : x10_3 < (t418.length : Int) := of_decide_eq_true aq2
          obtain ⟨ad429, e429, hx429_0, hx429_1, hx429_2⟩ := at_T54 (Kd.R_reads' HO_5.out).2.2 x10_3 p429 q429
          cases e429
          replace p429 := eq_true p429
          replace q429 := eq_true q429
          have p430 : 0 ≤ (x9_2 : Int) := of_decide_eq_true aq2
          have q430 : x9_2 < (t418.length : Int) := of_decide_eq_true aq2
          obtain ⟨ad430, e430, hx430_0, hx430_1, hx430_2⟩ := at_T54 (Kd.R_reads' HO_5.out).2.2 x9_2 p430 q430
          obtain rfl : ad429 = ad430 := (by injection e430)
          replace p430 := eq_true p430
          replace q430 := eq_true q430
          refine start_ (n := 11) (S := fun w' => w'.cell? (ad429.add ((x10_3).toNat * 3)) = some (.int .i64 ((rd_T54 t418 x10_3).f0)) ∧ w'.cell? ⟨(ad429.add ((x10_3).toNat * 3)).block, (ad429.add ((x10_3).toNat * 3)).off + 1, none⟩ = some (.int .i64 ((rd_T54 t418 x10_3).f1)) ∧ w'.cell? ⟨(ad429.add ((x10_3).toNat * 3)).block, (ad429.add ((x10_3).toNat * 3)).off + 2, none⟩ = some (.int .i64 ((rd_T54 t418 x10_3).f2)) ∧ w'.cell? (ad429.add ((x9_2).toNat * 3)) = some (.int .i64 ((rd_T54 t418 x9_2).f0)) ∧ w'.cell? ⟨(ad429.add ((x9_2).toNat * 3)).block, (ad429.add ((x9_2).toNat * 3)).off + 1, none⟩ = some (.int .i64 ((rd_T54 t418 x9_2).f1)) ∧ w'.cell? ⟨(ad429.add ((x9_2).toNat * 3)).block, (ad429.add ((x9_2).toNat * 3)).off + 2, none⟩ = some (.int .i64 ((rd_T54 t418 x9_2).f2))) (ds := []) #[false, false, false, false, false, false, false, false, false, false, false] (by kernel_rfl) rfl rfl ⟨hx429_0, hx429_1, hx429_2, hx430_0, hx430_1, hx430_2⟩ (fun hHeld => ?_); refine with_tabW palingref21_Scan.tab17 palingref21_Scan.bits17 (fun HT_ HW_ => ?_)
          generalize wr.drew = w38 at HO_5 HO_6 HO_7 HB hx429_0 hx429_1 hx429_2 hx430_0 hx430_1 hx430_2 hHeld ⊢
          refine pz (i := 0) (N := some 51) (bz 11 1) rfl rfl ?_
          refine pz (i := 1) (N := some 52) (bz 11 3) rfl rfl ?_
          refine pz (i := 2) (N := some 53) (bz 11 7) rfl rfl ?_
          refine pz (i := 3) (N := some 54) (bz 11 15) rfl rfl ?_
          refine pz (i := 5) (N := some 56) (bz 11 47) rfl rfl ?_
          refine pz (i := 6) (N := some 57) (bz 11 111) rfl rfl ?_
          refine pz (i := 7) (N := some 58) (bz 11 239) rfl rfl ?_
          refine pz (i := 8) (N := some 59) (bz 11 495) rfl rfl ?_
          refine tz6 (i := 4) (N := some 55) (bz 11 511) rfl rfl hHeld ?_
          refine tz6 (i := 9) (N := some 60) (bz 11 1023) rfl rfl hHeld ?_
          refine pz (i := 10) (N := some 61) (bz 11 2047) rfl rfl ?_
          refine done_ (done_of HT_.out (by kernel_rfl)) ?_
          try go_wp2
          go_roundg k3
          case measure => have := HK1.out; have := HK2.out; have := HK3.out; omega
          case rel => exact ⟨(x7_3), (wrap64 (x10_3 + 1)), aq7, H', ⟨aq51⟩, ⟨aq10⟩, ⟨aq14⟩, ⟨aq18⟩, ⟨aq0⟩⟩
         rw [if_pos c32] at H
         have c32b0 : decide (((rd_T54 t418 x10_3).f2) < ((rd_T54 t418 x9_2).f1)) = true := decide_eq_true c32
         clear c32
         by_cases c33 : x10_3 < (x7_3.length : Int)
         rotate_left
         ·rw [if_neg c33] at H
          exact absurd H (by simp)
         rw [if_pos c33] at H
         have c33b0 : decide (x10_3 < (x7_3.length : Int)) = true := decide_eq_true c33
         clear c33
         obtain ⟨y431, hy_⟩ : ∃ y_ : List Int, y_ = (x7_3.set (x10_3 : Int).toNat (-1)) := ⟨_, rfl⟩
         replace H : (palingref21_Scan.l2 k3 a1 t418 x6_2 y431 x9_2 (wrap64 (x10_3 + 1))) = some r := aq3
         have Ny431 := Aside0.mk hy_
         clear hy_
         have H' := Aside0.mk H
         clear H
         try go_wp2
         replace HO_5 := Aside0.mk (Kd.R_drew HO_5.out)
         replace HO_6 := Aside0.mk (Kd.R_drew HO_6.out)
         replace HO_7 := Aside0.mk (Kd.R_drew HO_7.out)
         replace HB := Aside0.mk (below_drew1 HB.out)
         have p429 : 0 ≤ (x10_3 : Int) := of_decide_eq_true aq2
         have q429 : x10_3 < (t418.length : Int) := of_decide_eq_true aq2
         obtain ⟨ad429, e429, hx429_0, hx429_1, hx429_2⟩ := at_T54 (Kd.R_reads' HO_5.out).2.2 x10_3 p429 q429
         cases e429
         replace p429 := eq_true p429
         replace q429 := eq_true q429
         have p430 : 0 ≤ (x9_2 : Int) := of_decide_eq_true aq2
         have q430 : x9_2 < (t418.length : Int) := of_decide_eq_true aq2
         obtain ⟨ad430, e430, hx430_0, hx430_1, hx430_2⟩ := at_T54 (Kd.R_reads' HO_5.out).2.2 x9_2 p430 q430
         obtain rfl : ad429 = ad430 := (by injection e430)
         replace p430 := eq_true p430
         replace q430 := eq_true q430
         refine start_ (n := 11) (S := fun w' => w'.cell? (ad429.add ((x10_3).toNat * 3)) = some (.int .i64 ((rd_T54 t418 x10_3).f0)) ∧ w'.cell? ⟨(ad429.add ((x10_3).toNat * 3)).block, (ad429.add ((x10_3).toNat * 3)).off + 1, none⟩ = some (.int .i64 ((rd_T54 t418 x10_3).f1)) ∧ w'.cell? ⟨(ad429.add ((x10_3).toNat * 3)).block, (ad429.add ((x10_3).toNat * 3)).off + 2, none⟩ = some (.int .i64 ((rd_T54 t418 x10_3).f2)) ∧ w'.cell? (ad429.add ((x9_2).toNat * 3)) = some (.int .i64 ((rd_T54 t418 x9_2).f0)) ∧ w'.cell? ⟨(ad429.add ((x9_2).toNat * 3)).block, (ad429.add ((x9_2).toNat * 3)).off + 1, none⟩ = some (.int .i64 ((rd_T54 t418 x9_2).f1)) ∧ w'.cell? ⟨(ad429.add ((x9_2).toNat * 3)).block, (ad429.add ((x9_2).toNat * 3)).off + 2, none⟩ = some (.int .i64 ((rd_T54 t418 x9_2).f2))) (ds := []) #[false, false, false, false, false, false, false, false, false, false, false] (by kernel_rfl) rfl rfl ⟨hx429_0, hx429_1, hx429_2, hx430_0, hx430_1, hx430_2⟩ (fun hHeld => ?_); refine with_tabW palingref21_Scan.tab17 palingref21_Scan.bits17 (fun HT_ HW_ => ?_)
         generalize wr.drew = w35 at HO_5 HO_6 HO_7 HB hx429_0 hx429_1 hx429_2 hx430_0 hx430_1 hx430_2 hHeld ⊢
         refine pz (i := 0) (N := some 51) (bz 11 1) rfl rfl ?_
         refine pz (i := 1) (N := some 52) (bz 11 3) rfl rfl ?_
         refine pz (i := 2) (N := some 53) (bz 11 7) rfl rfl ?_
         refine pz (i := 3) (N := some 54) (bz 11 15) rfl rfl ?_
         refine pz (i := 5) (N := some 56) (bz 11 47) rfl rfl ?_
         refine pz (i := 6) (N := some 57) (bz 11 111) rfl rfl ?_
         refine pz (i := 7) (N := some 58) (bz 11 239) rfl rfl ?_
         refine pz (i := 8) (N := some 59) (bz 11 495) rfl rfl ?_
         refine tz6 (i := 4) (N := some 55) (bz 11 511) rfl rfl hHeld ?_
         refine tz6 (i := 9) (N := some 60) (bz 11 1023) rfl rfl hHeld ?_
         refine pz (i := 10) (N := some 61) (bz 11 2047) rfl rfl ?_
         refine done_ (done_of HT_.out (by kernel_rfl)) ?_
         have p34 : 0 ≤ (x10_3 : Int) := of_decide_eq_true aq2
         have q34 : (x10_3 : Int) < ((x7_3.length : Int) : Int) := of_decide_eq_true aq2
         obtain ⟨go34, co34, eo34, gb2, gl34, cl34, HG34⟩ := Kd.R_form HO_7.out (by omega)
         (first | cases eo34 | (injection eo34 with ea_ en_ ec_; (first | subst ea_ | (injection ea_ with ea_; subst ea_)); subst ec_; clear en_))
         have GB34 := Aside0.mk gb2
         have GG34 := Aside0.mk HG34
         clear gb2 gl34 HG34
         obtain ⟨hx34_0, hf34_0⟩ := Kd.R_celln 0 HO_7.out (x10_3 : Int) p34 q34
         replace p34 := eq_true p34
         replace q34 := eq_true q34
         obtain ⟨hy36_, hz36_⟩ := Kd.R_celln 0 HO_7.out (x10_3 : Int) (of_decide_eq_true aq2) (of_decide_eq_true aq2)
         have HP36 := Kd.R_putg HO_7.out (x10_3 : Int) (-1)
         try go_wp2_with (first | ((with_reducible refine gate_store (t := 3) (p := 64) rfl ?_); refine store_event (t := 3) (p := 64) (v := ?vo_w37) (w1 := (w35.setCell ⟨go34, (x10_3 : Int).toNat, none⟩ (.int .i64 (-1)))) ?hg ?ho ?hn ?hr ?_; (case ho => rfl); (case hg => rfl); (case hn => rfl); (case hr => first | (go_simp; done) | (go_simp; rfl)); intro w37 hw; have hg : w35.grownBy w37 (some go34) := (by rw [hw]; exact HP36.2); have hp_ : Kd.R (Kd.int .i64) 3 w37 w.heap.size (fun k_ => some k_ ≠ (v422 : Value).ownBlock) (.slice (some ⟨go34, 0, none⟩) x7_3.length co34) y431 := (by rw [hw, Ny431.out]; exact HP36.1); clear HP36; replace HO_5 := Aside0.mk (Kd.R_over' (v := (.slice (some ⟨go34, 0, none⟩) x7_3.length co34)) aq10 (Kd.R_typed HO_7.out) (by decide) hg); replace HO_6 := Aside0.mk (Kd.R_after (v := (.slice (some ⟨go34, 0, none⟩) x7_3.length co34)) (v1 := (.slice (some ⟨go34, 0, none⟩) x7_3.length co34)) (ok := (fun _ => True)) aq47 hg (.inl rfl)); replace HO_7 := Aside0.mk (hp_); replace HB := Aside0.mk ((by rw [hw]; exact below_set (HB.out) GB34.out : Below w.heap.size w w37)); clear hg hw hp_))
         go_roundg k3
         case measure => have := HK1.out; have := HK2.out; have := HK3.out; omega
         case rel => exact ⟨(y431), (wrap64 (x10_3 + 1)), aq7, H', ⟨aq51⟩, ⟨aq10⟩, ⟨by (with_reducible repeat (first | apply Kd.R_alloc | apply Kd.R_drewN | apply Kd.R_drew)); exact Kd.R_mono HO_6.out (fun _ hk => hk.2)⟩, ⟨aq18⟩, ⟨aq0⟩⟩
        rw [if_neg c27] at H
        have c27b0 : decide (x10_3 < x9_2) = false := decide_eq_false c27
        clear c27
        obtain ⟨t432, A39, H⟩ := bS_ H
        by_cases c40 : t432 < 0
        rotate_left
        ·rw [if_neg c40] at H
         have c40b0 : decide (t432 < 0) = false := decide_eq_false c40
         clear c40
         by_cases c63 : 0 ≤ x9_2
         rotate_left
         ·rw [if_neg c63] at H
          exact absurd H (by simp)
         rw [if_pos c63] at H
         have c63b0 : decide (0 ≤ x9_2) = true := decide_eq_true c63
         clear c63
         by_cases c64 : x9_2 < (x7_3.length : Int)
         rotate_left
         ·rw [if_neg c64] at H
          exact absurd H (by simp)
         rw [if_pos c64] at H
         have c64b0 : decide (x9_2 < (x7_3.length : Int)) = true := decide_eq_true c64
         clear c64
         obtain ⟨y439, hy_⟩ : ∃ y_ : List Int, y_ = (x7_3.set (x9_2 : Int).toNat t432) := ⟨_, rfl⟩
         replace H : (if x9_2 < (x6_2.length : Int) then (palingref21_Scan.l1 k3 a1 t418 (x6_2.set (x9_2 : Int).toNat t432) y439 (wrap64 (x9_2 + 1))) else (none)) = some r := aq3
         have Ny439 := Aside0.mk hy_
         clear hy_
         by_cases c66 : x9_2 < (x6_2.length : Int)
         rotate_left
         ·rw [if_neg c66] at H
          exact absurd H (by simp)
         rw [if_pos c66] at H
         have c66b0 : decide (x9_2 < (x6_2.length : Int)) = true := decide_eq_true c66
         clear c66
         obtain ⟨y440, hy_⟩ : ∃ y_ : List Int, y_ = (x6_2.set (x9_2 : Int).toNat t432) := ⟨_, rfl⟩
         replace H : (palingref21_Scan.l1 k3 a1 t418 y440 y439 (wrap64 (x9_2 + 1))) = some r := aq3
         have Ny440 := Aside0.mk hy_
         clear hy_
         have H' := Aside0.mk H
         clear H
         obtain ⟨Ao68, co68, eo68⟩ := Kd.R_slice HO_7.out
         subst eo68
         go_wp2_with (first | ((with_reducible refine gate_callee (f := 20) rfl ?_); refine goesL_ (some 67) rfl rfl Tryd.func20 (by kernel_rfl) rfl #[.slice Ao68 x7_3.length co68, .int .i64 a1] rfl aq8 ?_; (with_reducible refine (palingref21_free.calls k3 _ _ x7_3 a1 t432 _ ?side1 ?side2 A39.out).mono ?_); (case side1 => repeat (first | exact (Kd.R_reads' HO_7.out).2.2 | (with_reducible refine Kd.C_alloc ?_ _) | (with_reducible refine Kd.C_drewN ?_ _) | (with_reducible refine Kd.C_drew ?_))); (case side2 => exact (Kd.R_reads' HO_7.out).2.1); rintro e w' ⟨rfl, ⟨nd, rfl⟩⟩; refine ⟨_, rfl, ?_⟩; (try (rw [drewN_self wr]; generalize hq_ : World.drewN wr _ = wr; have n0_ : Aside0 (Kd.R k54 54 wr w.heap.size (fun _ => True) (.slice Ao11 t418.length co11) t418) := ⟨aq58⟩; have n1_ : Aside0 (Kd.R (Kd.int .i64) 3 wr w.heap.size (fun k_ => some k_ ≠ (.slice Ao68 x7_3.length co68 : Value).ownBlock) v422 x6_2) := ⟨aq59⟩; have n2_ : Aside0 (Kd.R (Kd.int .i64) 3 wr w.heap.size (fun k_ => some k_ ≠ (v422 : Value).ownBlock) (.slice Ao68 x7_3.length co68) x7_3) := ⟨aq60⟩; have n3_ : Aside0 (Below w.heap.size w wr) := ⟨aq53⟩; clear HO_5 HO_6 HO_7 HB hq_; have HO_5 := n0_; have HO_6 := n1_; have HO_7 := n2_; have HB := n3_; clear n0_ n1_ n2_ n3_)); have p65 : 0 ≤ (x9_2 : Int) := of_decide_eq_true aq2; have q65 : (x9_2 : Int) < ((x7_3.length : Int) : Int) := of_decide_eq_true aq2; obtain ⟨go65, co65, eo65, gb3, gl65, cl65, HG65⟩ := Kd.R_form HO_7.out (by omega); (first | cases eo65 | (injection eo65 with ea_ en_ ec_; (first | subst ea_ | (injection ea_ with ea_; subst ea_)); subst ec_; clear en_)); have GB65 := Aside0.mk gb3; have GG65 := Aside0.mk HG65; clear gb3 gl65 HG65; obtain ⟨hx65_0, hf65_0⟩ := Kd.R_celln 0 HO_7.out (x9_2 : Int) p65 q65; replace p65 := eq_true p65; replace q65 := eq_true q65; obtain ⟨hy69_, hz69_⟩ := Kd.R_celln 0 HO_7.out (x9_2 : Int) (of_decide_eq_true aq2) (of_decide_eq_true aq2); have HP69 := Kd.R_putg HO_7.out (x9_2 : Int) t432) | ((with_reducible refine gate_store (t := 3) (p := 90) rfl ?_); refine store_event (t := 3) (p := 90) (v := ?vo_w70) (w1 := (wr.setCell ⟨go65, (x9_2 : Int).toNat, none⟩ (.int .i64 t432))) ?hg ?ho ?hn ?hr ?_; (case ho => rfl); (case hg => rfl); (case hn => rfl); (case hr => first | (go_simp; done) | (go_simp; rfl)); intro w70 hw; have hg : wr.grownBy w70 (some go65) := (by rw [hw]; exact HP69.2); have hp_ : Kd.R (Kd.int .i64) 3 w70 w.heap.size (fun k_ => some k_ ≠ (v422 : Value).ownBlock) (.slice (some ⟨go65, 0, none⟩) x7_3.length co68) y439 := (by rw [hw, Ny439.out]; exact HP69.1); clear HP69; replace HO_5 := Aside0.mk (Kd.R_over' (v := (.slice (some ⟨go65, 0, none⟩) x7_3.length co68)) aq10 (Kd.R_typed HO_7.out) (by decide) hg); replace HO_6 := Aside0.mk (Kd.R_after (v := (.slice (some ⟨go65, 0, none⟩) x7_3.length co68)) (v1 := (.slice (some ⟨go65, 0, none⟩) x7_3.length co68)) (ok := (fun _ => True)) aq47 hg (.inl rfl)); replace HO_7 := Aside0.mk (hp_); replace HB := Aside0.mk ((by rw [hw]; exact below_set (HB.out) GB65.out : Below w.heap.size w w70)); clear hg hw hp_; have p67 : 0 ≤ (x9_2 : Int) := of_decide_eq_true aq2; have q67 : (x9_2 : Int) < ((x6_2.length : Int) : Int) := of_decide_eq_true aq2; obtain ⟨go67, co67, eo67, gb4, gl67, cl67, HG67⟩ := Kd.R_form HO_6.out (by omega); (first | cases eo67 | (injection eo67 with ea_ en_ ec_; (first | subst ea_ | (injection ea_ with ea_; subst ea_)); subst ec_; clear en_)); have GB67 := Aside0.mk gb4; have GG67 := Aside0.mk HG67; clear gb4 gl67 HG67; obtain ⟨hx67_0, hf67_0⟩ := Kd.R_celln 0 HO_6.out (x9_2 : Int) p67 q67; replace p67 := eq_true p67; replace q67 := eq_true q67; have n_ := Aside0.mk (Kd.R_mono (ok' := (fun k_ => some k_ ≠ (.slice (some ⟨go65, 0, none⟩) x7_3.length co68 : Value).ownBlock)) HO_6.out (fun k_ hk => hk.2)); clear HO_6; have HO_6 := n_; clear n_; obtain ⟨hy71_, hz71_⟩ := Kd.R_celln 0 HO_6.out (x9_2 : Int) (of_decide_eq_true aq2) (of_decide_eq_true aq2); have HP71 := Kd.R_putg HO_6.out (x9_2 : Int) t432) | ((with_reducible refine gate_store (t := 3) (p := 94) rfl ?_); refine store_event (t := 3) (p := 94) (v := ?vo_w72) (w1 := (w70.setCell ⟨go67, (x9_2 : Int).toNat, none⟩ (.int .i64 t432))) ?hg ?ho ?hn ?hr ?_; (case ho => rfl); (case hg => rfl); (case hn => rfl); (case hr => first | (go_simp; done) | (go_simp; rfl)); intro w72 hw; have hg : w70.grownBy w72 (some go67) := (by rw [hw]; exact HP71.2); have hp_ : Kd.R (Kd.int .i64) 3 w72 w.heap.size (fun k_ => some k_ ≠ (.slice (some ⟨go65, 0, none⟩) x7_3.length co68 : Value).ownBlock) (.slice (some ⟨go67, 0, none⟩) x6_2.length co67) y440 := (by rw [hw, Ny440.out]; exact HP71.1); clear HP71; replace HO_5 := Aside0.mk (Kd.R_over' (v := (.slice (some ⟨go67, 0, none⟩) x6_2.length co67)) aq10 (Kd.R_typed HO_6.out) (by decide) hg); replace HO_6 := Aside0.mk (hp_); replace HO_7 := Aside0.mk (Kd.R_after (v := (.slice (some ⟨go67, 0, none⟩) x6_2.length co67)) (v1 := (.slice (some ⟨go67, 0, none⟩) x6_2.length co67)) (ok := (fun _ => True)) aq46 hg (.inl rfl)); replace HB := Aside0.mk ((by rw [hw]; exact below_set (HB.out) GB67.out : Below w.heap.size w w72)); clear hg hw hp_))
         go_roundg k3
         case measure => have := HK1.out; have := HK2.out; have := HK3.out; omega
         case rel => exact ⟨(y440), (y439), (wrap64 (x9_2 + 1)), aq7, H', ⟨aq51⟩, ⟨aq10⟩, ⟨aq14⟩, ⟨by (with_reducible repeat (first | apply Kd.R_alloc | apply Kd.R_drewN | apply Kd.R_drew)); exact Kd.R_mono HO_7.out (fun _ hk => hk.2)⟩, ⟨aq0⟩⟩
        rw [if_pos c40] at H
        have c40b0 : decide (t432 < 0) = true := decide_eq_true c40
        clear c40
        obtain ⟨t433, A41, H⟩ := bS_ H
        by_cases c42 : t433 = x9_2
        ·rw [if_pos c42] at H
         have c42b0 : (t433 == x9_2) = true := beq_iff_eq.mpr c42
         have c42b1 : (t433 != x9_2) = false := bne_eq_false_iff_eq.mpr c42
         clear c42
         have H' := Aside0.mk H
         clear H
         obtain ⟨Ao43, co43, eo43⟩ := Kd.R_slice HO_7.out
         subst eo43
         go_wp2_with (first | ((with_reducible refine gate_callee (f := 20) rfl ?_); refine goesL_ (some 67) rfl rfl Tryd.func20 (by kernel_rfl) rfl #[.slice Ao43 x7_3.length co43, .int .i64 a1] rfl aq8 ?_; (with_reducible refine (palingref21_free.calls k3 _ _ x7_3 a1 t432 _ ?side1 ?side2 A39.out).mono ?_); (case side1 => repeat (first | exact (Kd.R_reads' HO_7.out).2.2 | (with_reducible refine Kd.C_alloc ?_ _) | (with_reducible refine Kd.C_drewN ?_ _) | (with_reducible refine Kd.C_drew ?_))); (case side2 => exact (Kd.R_reads' HO_7.out).2.1); rintro e w' ⟨rfl, ⟨nd, rfl⟩⟩; refine ⟨_, rfl, ?_⟩) | ((with_reducible refine gate_callee (f := 21) rfl ?_); refine goesL_ (some 73) rfl rfl Tryd.func21 (by kernel_rfl) rfl #[.slice Ao11 t418.length co11, .slice Ao43 x7_3.length co43, .int .i64 x9_2] rfl aq8 ?_; (with_reducible refine (palingref21_worst.calls k3 _ _ t418 _ _ x7_3 x9_2 t433 _ ?side1 ?side2 ?side3 ?side4 A41.out).mono ?_); (case side1 => repeat (first | exact (Kd.R_reads' HO_5.out).2.2 | (with_reducible refine Kd.C_alloc ?_ _) | (with_reducible refine Kd.C_drewN ?_ _) | (with_reducible refine Kd.C_drew ?_))); (case side2 => exact (Kd.R_reads' HO_5.out).2.1); (case side3 => repeat (first | exact (Kd.R_reads' HO_7.out).2.2 | (with_reducible refine Kd.C_alloc ?_ _) | (with_reducible refine Kd.C_drewN ?_ _) | (with_reducible refine Kd.C_drew ?_))); (case side4 => exact (Kd.R_reads' HO_7.out).2.1); rintro e w' ⟨rfl, ⟨nd, rfl⟩⟩; refine ⟨_, rfl, ?_⟩))
         go_roundg k3
         case measure => have := HK1.out; have := HK2.out; have := HK3.out; omega
         case rel => exact ⟨(x6_2), (x7_3), (wrap64 (x9_2 + 1)), aq7, H', ⟨aq51⟩, ⟨aq10⟩, ⟨aq14⟩, ⟨aq18⟩, ⟨aq0⟩⟩
        rw [if_neg c42] at H
        have c42b0 : (t433 == x9_2) = false := beq_eq_false_iff_ne.mpr c42
        have c42b1 : (t433 != x9_2) = true := bne_iff_ne.mpr c42
        by_cases c44 : 0 ≤ t433
        rotate_left
        ·rw [if_neg c44] at H
         exact absurd H (by simp)
        rw [if_pos c44] at H
        have c44b0 : decide (0 ≤ t433) = true := decide_eq_true c44
        clear c44
        by_cases c45 : t433 < (x7_3.length : Int)
        rotate_left
        ·rw [if_neg c45] at H
         exact absurd H (by simp)
        rw [if_pos c45] at H
        have c45b0 : decide (t433 < (x7_3.length : Int)) = true := decide_eq_true c45
        clear c45
        obtain ⟨y435, hy_⟩ : ∃ y_ : List Int, y_ = (x7_3.set (t433 : Int).toNat (-1)) := ⟨_, rfl⟩
        replace H : (if t433 < (x6_2.length : Int) then (if 0 ≤ x9_2 then (if x9_2 < (x7_3.length : Int) then (if x9_2 < (x6_2.length : Int) then (palingref21_Scan.l1 k3 a1 t418 ((x6_2.set (t433 : Int).toNat (-1)).set (x9_2 : Int).toNat (rd x7_3 t433)) (y435.set (x9_2 : Int).toNat (rd x7_3 t433)) (wrap64 (x9_2 + 1))) else (none)) else (none)) else (none)) else (none)) = some r := aq3
        have Ny435 := Aside0.mk hy_
        clear hy_
        by_cases c47 : t433 < (x6_2.length : Int)
        rotate_left
        ·rw [if_neg c47] at H
         exact absurd H (by simp)
        rw [if_pos c47] at H
        have c47b0 : decide (t433 < (x6_2.length : Int)) = true := decide_eq_true c47
        clear c47
        obtain ⟨y436, hy_⟩ : ∃ y_ : List Int, y_ = (x6_2.set (t433 : Int).toNat (-1)) := ⟨_, rfl⟩
        replace H : (if 0 ≤ x9_2 then (if x9_2 < (x7_3.length : Int) then (if x9_2 < (x6_2.length : Int) then (palingref21_Scan.l1 k3 a1 t418 (y436.set (x9_2 : Int).toNat (rd x7_3 t433)) (y435.set (x9_2 : Int).toNat (rd x7_3 t433)) (wrap64 (x9_2 + 1))) else (none)) else (none)) else (none)) = some r := aq3
        have Ny436 := Aside0.mk hy_
        clear hy_
        by_cases c49 : 0 ≤ x9_2
        rotate_left
        ·rw [if_neg c49] at H
         exact absurd H (by simp)
        rw [if_pos c49] at H
        have c49b0 : decide (0 ≤ x9_2) = true := decide_eq_true c49
        clear c49
        by_cases c50 : x9_2 < (x7_3.length : Int)
        rotate_left
        ·rw [if_neg c50] at H
         exact absurd H (by simp)
        rw [if_pos c50] at H
        have c50b0 : decide (x9_2 < (x7_3.length : Int)) = true := decide_eq_true c50
        clear c50
        obtain ⟨y437, hy_⟩ : ∃ y_ : List Int, y_ = (y435.set (x9_2 : Int).toNat (rd x7_3 t433)) := ⟨_, rfl⟩
        replace H : (if x9_2 < (x6_2.length : Int) then (palingref21_Scan.l1 k3 a1 t418 (y436.set (x9_2 : Int).toNat (rd x7_3 t433)) y437 (wrap64 (x9_2 + 1))) else (none)) = some r := aq3
        have Ny437 := Aside0.mk hy_
        clear hy_
        by_cases c52 : x9_2 < (x6_2.length : Int)
        rotate_left
        ·rw [if_neg c52] at H
         exact absurd H (by simp)
        rw [if_pos c52] at H
        have c52b0 : decide (x9_2 < (x6_2.length : Int)) = true := decide_eq_true c52
        clear c52
        obtain ⟨y438, hy_⟩ : ∃ y_ : List Int, y_ = (y436.set (x9_2 : Int).toNat (rd x7_3 t433)) := ⟨_, rfl⟩
        replace H : (palingref21_Scan.l1 k3 a1 t418 y438 y437 (wrap64 (x9_2 + 1))) = some r := aq3
        have Ny438 := Aside0.mk hy_
        clear hy_
        have H' := Aside0.mk H
        clear H
        obtain ⟨Ao54, co54, eo54⟩ := Kd.R_slice HO_7.out
        subst eo54
        go_wp2_with (first | ((with_reducible refine gate_callee (f := 20) rfl ?_); refine goesL_ (some 67) rfl rfl Tryd.func20 (by kernel_rfl) rfl #[.slice Ao54 x7_3.length co54, .int .i64 a1] rfl aq8 ?_; (with_reducible refine (palingref21_free.calls k3 _ _ x7_3 a1 t432 _ ?side1 ?side2 A39.out).mono ?_); (case side1 => repeat (first | exact (Kd.R_reads' HO_7.out).2.2 | (with_reducible refine Kd.C_alloc ?_ _) | (with_reducible refine Kd.C_drewN ?_ _) | (with_reducible refine Kd.C_drew ?_))); (case side2 => exact (Kd.R_reads' HO_7.out).2.1); rintro e w' ⟨rfl, ⟨nd, rfl⟩⟩; refine ⟨_, rfl, ?_⟩; (try (rw [drewN_self wr]; generalize hq_ : World.drewN wr _ = wr; have n0_ : Aside0 (Kd.R k54 54 wr w.heap.size (fun _ => True) (.slice Ao11 t418.length co11) t418) := ⟨aq58⟩; have n1_ : Aside0 (Kd.R (Kd.int .i64) 3 wr w.heap.size (fun k_ => some k_ ≠ (.slice Ao54 x7_3.length co54 : Value).ownBlock) v422 x6_2) := ⟨aq59⟩; have n2_ : Aside0 (Kd.R (Kd.int .i64) 3 wr w.heap.size (fun k_ => some k_ ≠ (v422 : Value).ownBlock) (.slice Ao54 x7_3.length co54) x7_3) := ⟨aq60⟩; have n3_ : Aside0 (Below w.heap.size w wr) := ⟨aq53⟩; clear HO_5 HO_6 HO_7 HB hq_; have HO_5 := n0_; have HO_6 := n1_; have HO_7 := n2_; have HB := n3_; clear n0_ n1_ n2_ n3_))) | ((with_reducible refine gate_callee (f := 21) rfl ?_); refine goesL_ (some 73) rfl rfl Tryd.func21 (by kernel_rfl) rfl #[.slice Ao11 t418.length co11, .slice Ao54 x7_3.length co54, .int .i64 x9_2] rfl aq8 ?_; (with_reducible refine (palingref21_worst.calls k3 _ _ t418 _ _ x7_3 x9_2 t433 _ ?side1 ?side2 ?side3 ?side4 A41.out).mono ?_); (case side1 => repeat (first | exact (Kd.R_reads' HO_5.out).2.2 | (with_reducible refine Kd.C_alloc ?_ _) | (with_reducible refine Kd.C_drewN ?_ _) | (with_reducible refine Kd.C_drew ?_))); (case side2 => exact (Kd.R_reads' HO_5.out).2.1); (case side3 => repeat (first | exact (Kd.R_reads' HO_7.out).2.2 | (with_reducible refine Kd.C_alloc ?_ _) | (with_reducible refine Kd.C_drewN ?_ _) | (with_reducible refine Kd.C_drew ?_))); (case side4 => exact (Kd.R_reads' HO_7.out).2.1); rintro e w' ⟨rfl, ⟨nd, rfl⟩⟩; refine ⟨_, rfl, ?_⟩; (try (rw [drewN_self wr]; generalize hq_ : World.drewN wr _ = wr; have n0_ : Aside0 (Kd.R k54 54 wr w.heap.size (fun _ => True) (.slice Ao11 t418.length co11) t418) := ⟨aq58⟩; have n1_ : Aside0 (Kd.R (Kd.int .i64) 3 wr w.heap.size (fun k_ => some k_ ≠ (.slice Ao54 x7_3.length co54 : Value).ownBlock) v422 x6_2) := ⟨aq59⟩; have n2_ : Aside0 (Kd.R (Kd.int .i64) 3 wr w.heap.size (fun k_ => some k_ ≠ (v422 : Value).ownBlock) (.slice Ao54 x7_3.length co54) x7_3) := ⟨aq60⟩; have n3_ : Aside0 (Below w.heap.size w wr) := ⟨aq53⟩; clear HO_5 HO_6 HO_7 HB hq_; have HO_5 := n0_; have HO_6 := n1_; have HO_7 := n2_; have HB := n3_; clear n0_ n1_ n2_ n3_)); have p434 : 0 ≤ (t433 : Int) := of_decide_eq_true aq2; have q434 : t433 < (x7_3.length : Int) := of_decide_eq_true aq2; obtain ⟨ad434, e434, hx434_0⟩ := Kd.at_int (Kd.R_reads' HO_7.out).2.2 t433 p434 q434; cases e434; replace p434 := eq_true p434; replace q434 := eq_true q434; have p46 : 0 ≤ (t433 : Int) := of_decide_eq_true aq2; have q46 : (t433 : Int) < ((x7_3.length : Int) : Int) := of_decide_eq_true aq2; obtain ⟨go46, co46, eo46, gb5, gl46, cl46, HG46⟩ := Kd.R_form HO_7.out (by omega); (first | cases eo46 | (injection eo46 with ea_ en_ ec_; (first | subst ea_ | (injection ea_ with ea_; subst ea_)); subst ec_; clear en_)); have GB46 := Aside0.mk gb5; have GG46 := Aside0.mk HG46; clear gb5 gl46 HG46; (first | simp only [add_plain] at hx434_0 | skip); obtain ⟨hx46_0, hf46_0⟩ := Kd.R_celln 0 HO_7.out (t433 : Int) p46 q46; replace p46 := eq_true p46; replace q46 := eq_true q46; obtain ⟨hy55_, hz55_⟩ := Kd.R_celln 0 HO_7.out (t433 : Int) (of_decide_eq_true aq2) (of_decide_eq_true aq2); have HP55 := Kd.R_putg HO_7.out (t433 : Int) (-1)) | ((with_reducible refine gate_store (t := 3) (p := 83) rfl ?_); refine store_event (t := 3) (p := 83) (v := ?vo_w56) (w1 := (wr.setCell ⟨go46, (t433 : Int).toNat, none⟩ (.int .i64 (-1)))) ?hg ?ho ?hn ?hr ?_; (case ho => rfl); (case hg => rfl); (case hn => rfl); (case hr => first | (go_simp; done) | (go_simp; rfl)); intro w56 hw; have hg : wr.grownBy w56 (some go46) := (by rw [hw]; exact HP55.2); have hp_ : Kd.R (Kd.int .i64) 3 w56 w.heap.size (fun k_ => some k_ ≠ (v422 : Value).ownBlock) (.slice (some ⟨go46, 0, none⟩) x7_3.length co54) y435 := (by rw [hw, Ny435.out]; exact HP55.1); clear HP55; replace HO_5 := Aside0.mk (Kd.R_over' (v := (.slice (some ⟨go46, 0, none⟩) x7_3.length co54)) aq10 (Kd.R_typed HO_7.out) (by decide) hg); replace HO_6 := Aside0.mk (Kd.R_after (v := (.slice (some ⟨go46, 0, none⟩) x7_3.length co54)) (v1 := (.slice (some ⟨go46, 0, none⟩) x7_3.length co54)) (ok := (fun _ => True)) aq47 hg (.inl rfl)); replace HO_7 := Aside0.mk (hp_); replace HB := Aside0.mk ((by rw [hw]; exact below_set (HB.out) GB46.out : Below w.heap.size w w56)); clear hg hw hp_; have p48 : 0 ≤ (t433 : Int) := of_decide_eq_true aq2; have q48 : (t433 : Int) < ((x6_2.length : Int) : Int) := of_decide_eq_true aq2; obtain ⟨go48, co48, eo48, gb6, gl48, cl48, HG48⟩ := Kd.R_form HO_6.out (by omega); (first | cases eo48 | (injection eo48 with ea_ en_ ec_; (first | subst ea_ | (injection ea_ with ea_; subst ea_)); subst ec_; clear en_)); have GB48 := Aside0.mk gb6; have GG48 := Aside0.mk HG48; clear gb6 gl48 HG48; obtain ⟨hx48_0, hf48_0⟩ := Kd.R_celln 0 HO_6.out (t433 : Int) p48 q48; replace p48 := eq_true p48; replace q48 := eq_true q48; have n_ := Aside0.mk (Kd.R_mono (ok' := (fun k_ => some k_ ≠ (.slice (some ⟨go46, 0, none⟩) x7_3.length co54 : Value).ownBlock)) HO_6.out (fun k_ hk => hk.2)); clear HO_6; have HO_6 := n_; clear n_; obtain ⟨hy57_, hz57_⟩ := Kd.R_celln 0 HO_6.out (t433 : Int) (of_decide_eq_true aq2) (of_decide_eq_true aq2); have HP57 := Kd.R_putg HO_6.out (t433 : Int) (-1)) | ((with_reducible refine gate_store (t := 3) (p := 86) rfl ?_); refine store_event (t := 3) (p := 86) (v := ?vo_w58) (w1 := (w56.setCell ⟨go48, (t433 : Int).toNat, none⟩ (.int .i64 (-1)))) ?hg ?ho ?hn ?hr ?_; (case ho => rfl); (case hg => rfl); (case hn => rfl); (case hr => first | (go_simp; done) | (go_simp; rfl)); intro w58 hw; have hg : w56.grownBy w58 (some go48) := (by rw [hw]; exact HP57.2); have hp_ : Kd.R (Kd.int .i64) 3 w58 w.heap.size (fun k_ => some k_ ≠ (.slice (some ⟨go46, 0, none⟩) x7_3.length co54 : Value).ownBlock) (.slice (some ⟨go48, 0, none⟩) x6_2.length co48) y436 := (by rw [hw, Ny436.out]; exact HP57.1); clear HP57; replace HO_5 := Aside0.mk (Kd.R_over' (v := (.slice (some ⟨go48, 0, none⟩) x6_2.length co48)) aq10 (Kd.R_typed HO_6.out) (by decide) hg); replace HO_6 := Aside0.mk (hp_); replace HO_7 := Aside0.mk (Kd.R_after (v := (.slice (some ⟨go48, 0, none⟩) x6_2.length co48)) (v1 := (.slice (some ⟨go48, 0, none⟩) x6_2.length co48)) (ok := (fun _ => True)) aq46 hg (.inl rfl)); replace HB := Aside0.mk ((by rw [hw]; exact below_set (HB.out) GB48.out : Below w.heap.size w w58)); clear hg hw hp_; have p51 : 0 ≤ (x9_2 : Int) := of_decide_eq_true aq2; have q51 : (x9_2 : Int) < ((x7_3.length : Int) : Int) := of_decide_eq_true aq2; obtain ⟨hx51_0, hf51_0⟩ := Kd.R_celln 0 HO_7.out (x9_2 : Int) p51 q51; replace p51 := eq_true p51; replace q51 := eq_true q51; have n_ := Aside0.mk (Kd.R_mono (ok' := (fun k_ => some k_ ≠ (.slice (some ⟨go48, 0, none⟩) x6_2.length co48 : Value).ownBlock)) HO_7.out (fun k_ hk => hk.2)); clear HO_7; have HO_7 := n_; clear n_; obtain ⟨hy59_, hz59_⟩ := Kd.R_celln 0 HO_7.out (x9_2 : Int) (of_decide_eq_true aq2) (of_decide_eq_true aq2); have HP59 := Kd.R_putg HO_7.out (x9_2 : Int) (rd x7_3 t433)) | ((with_reducible refine gate_store (t := 3) (p := 90) rfl ?_); refine store_event (t := 3) (p := 90) (v := ?vo_w60) (w1 := (w58.setCell ⟨go46, (x9_2 : Int).toNat, none⟩ (.int .i64 (rd x7_3 t433)))) ?hg ?ho ?hn ?hr ?_; (case ho => rfl); (case hg => rfl); (case hn => rfl); (case hr => first | (go_simp; done) | (go_simp; rfl)); intro w60 hw; have hg : w58.grownBy w60 (some go46) := (by rw [hw]; exact HP59.2); have hp_ : Kd.R (Kd.int .i64) 3 w60 w.heap.size (fun k_ => some k_ ≠ (.slice (some ⟨go48, 0, none⟩) x6_2.length co48 : Value).ownBlock) (.slice (some ⟨go46, 0, none⟩) x7_3.length co54) y437 := (by rw [hw, Ny437.out]; exact HP59.1); clear HP59; replace HO_5 := Aside0.mk (Kd.R_over' (v := (.slice (some ⟨go46, 0, none⟩) x7_3.length co54)) aq10 (Kd.R_typed HO_7.out) (by decide) hg); replace HO_6 := Aside0.mk (Kd.R_after (v := (.slice (some ⟨go46, 0, none⟩) x7_3.length co54)) (v1 := (.slice (some ⟨go46, 0, none⟩) x7_3.length co54)) (ok := (fun _ => True)) aq47 hg (.inl rfl)); replace HO_7 := Aside0.mk (hp_); replace HB := Aside0.mk ((by rw [hw]; exact below_set (HB.out) GB46.out : Below w.heap.size w w60)); clear hg hw hp_; have p53 : 0 ≤ (x9_2 : Int) := of_decide_eq_true aq2; have q53 : (x9_2 : Int) < ((x6_2.length : Int) : Int) := of_decide_eq_true aq2; obtain ⟨hx53_0, hf53_0⟩ := Kd.R_celln 0 HO_6.out (x9_2 : Int) p53 q53; replace p53 := eq_true p53; replace q53 := eq_true q53; have n_ := Aside0.mk (Kd.R_mono (ok' := (fun k_ => some k_ ≠ (.slice (some ⟨go46, 0, none⟩) x7_3.length co54 : Value).ownBlock)) HO_6.out (fun k_ hk => hk.2)); clear HO_6; have HO_6 := n_; clear n_; obtain ⟨hy61_, hz61_⟩ := Kd.R_celln 0 HO_6.out (x9_2 : Int) (of_decide_eq_true aq2) (of_decide_eq_true aq2); have HP61 := Kd.R_putg HO_6.out (x9_2 : Int) (rd x7_3 t433)) | ((with_reducible refine gate_store (t := 3) (p := 94) rfl ?_); refine store_event (t := 3) (p := 94) (v := ?vo_w62) (w1 := (w60.setCell ⟨go48, (x9_2 : Int).toNat, none⟩ (.int .i64 (rd x7_3 t433)))) ?hg ?ho ?hn ?hr ?_; (case ho => rfl); (case hg => rfl); (case hn => rfl); (case hr => first | (go_simp; done) | (go_simp; rfl)); intro w62 hw; have hg : w60.grownBy w62 (some go48) := (by rw [hw]; exact HP61.2); have hp_ : Kd.R (Kd.int .i64) 3 w62 w.heap.size (fun k_ => some k_ ≠ (.slice (some ⟨go46, 0, none⟩) x7_3.length co54 : Value).ownBlock) (.slice (some ⟨go48, 0, none⟩) x6_2.length co48) y438 := (by rw [hw, Ny438.out]; exact HP61.1); clear HP61; replace HO_5 := Aside0.mk (Kd.R_over' (v := (.slice (some ⟨go48, 0, none⟩) x6_2.length co48)) aq10 (Kd.R_typed HO_6.out) (by decide) hg); replace HO_6 := Aside0.mk (hp_); replace HO_7 := Aside0.mk (Kd.R_after (v := (.slice (some ⟨go48, 0, none⟩) x6_2.length co48)) (v1 := (.slice (some ⟨go48, 0, none⟩) x6_2.length co48)) (ok := (fun _ => True)) aq46 hg (.inl rfl)); replace HB := Aside0.mk ((by rw [hw]; exact below_set (HB.out) GB48.out : Below w.heap.size w w62)); clear hg hw hp_))
        go_roundg k3
        case measure => have := HK1.out; have := HK2.out; have := HK3.out; omega
        case rel => exact ⟨(y438), (y437), (wrap64 (x9_2 + 1)), aq7, H', ⟨aq51⟩, ⟨aq10⟩, ⟨aq14⟩, ⟨by (with_reducible repeat (first | apply Kd.R_alloc | apply Kd.R_drewN | apply Kd.R_drew)); exact Kd.R_mono HO_7.out (fun _ hk => hk.2)⟩, ⟨aq0⟩⟩
     rw [if_neg c26] at H
     have c26b0 : decide (x9_2 < (t418.length : Int)) = false := decide_eq_false c26
     clear c26
     have H' := Aside0.mk H
     clear H
     go_wp2
     go_loopg [13, 14] k2 (fun kq v13 v14 w' => ∃ (x13_3 : List (S57)) (x14_3 : Int), v14 = .int .i64 x14_3 ∧ Aside0 (palingref21_Scan.l3 kq t418 x6_2 x13_3 x14_3 = some r) ∧ Aside0 (kq ≤ k2) ∧ Aside0 (Kd.R k54 54 w' w.heap.size (fun _ => True) (.slice Ao11 t418.length co11) t418) ∧ Aside0 (Kd.R (Kd.int .i64) 3 w' w.heap.size (fun _ => True) v422 x6_2) ∧ Aside0 (Kd.R k57 57 w' w.heap.size (fun _ => True) v13 x13_3) ∧ Aside0 (Below w.heap.size w w'))
     case atStart => exact ⟨(([] : List (S57))), (0), aq7, H', ⟨Nat.le_refl _⟩, ⟨aq10⟩, ⟨by (with_reducible repeat (first | apply Kd.R_alloc | apply Kd.R_drewN | apply Kd.R_drew)); exact Kd.R_mono HO_6.out (fun _ hk => trivial)⟩, ⟨aq22⟩, ⟨aq0⟩⟩
     case round =>
      clear H'
      try clear hf2
      try clear hf3
      try clear hf4
      try clear hf5
      try clear hf6
      try clear hf19
      try clear hf21
      try clear hf34
      try clear hf46
      try clear hf48
      try clear hf51
      try clear hf53
      try clear hf65
      try clear hf67
      obtain ⟨x13_3, x14_3, rfl, HA, HK3, HO_5, HO_6, HO_13, HB⟩ := hrel
      cases gk with
      | zero => exact absurd HA.out (by simp [palingref21_Scan.l3])
      | succ k3 =>
       have H := HA.out
       clear HA
       simp only [palingref21_Scan.l3] at H
       by_cases c73 : x14_3 < (t418.length : Int)
       rotate_left
       ·rw [if_neg c73] at H
        have c73b0 : decide (x14_3 < (t418.length : Int)) = false := decide_eq_false c73
        clear c73
        obtain rfl := Option.some.inj H
        go_wp2
        go_ret
        exact ⟨_, aq13, aq35, aq0⟩
       rw [if_pos c73] at H
       have c73b0 : decide (x14_3 < (t418.length : Int)) = true := decide_eq_true c73
       clear c73
       have H' := Aside0.mk H
       clear H
       go_wp2
       go_loopg [15] k3 (fun kq v15 w' => ∃ (x15_4 : Int), v15 = .int .i64 x15_4 ∧ Aside0 (palingref21_Scan.l4 kq t418 x6_2 x13_3 x14_3 x15_4 = some r) ∧ Aside0 (kq ≤ k3) ∧ Aside0 (Kd.R k54 54 w' w.heap.size (fun _ => True) (.slice Ao11 t418.length co11) t418) ∧ Aside0 (Kd.R (Kd.int .i64) 3 w' w.heap.size (fun _ => True) v422 x6_2) ∧ Aside0 (Kd.R k57 57 w' w.heap.size (fun _ => True) u13 x13_3) ∧ Aside0 (Below w.heap.size w w'))
       case atStart => exact ⟨(0), aq7, H', ⟨Nat.le_refl _⟩, ⟨aq10⟩, ⟨aq14⟩, ⟨aq35⟩, ⟨aq0⟩⟩
       case round =>
        clear H'
        try clear hf2
        try clear hf3
        try clear hf4
        try clear hf5
        try clear hf6
        try clear hf19
        try clear hf21
        try clear hf34
        try clear hf46
        try clear hf48
        try clear hf51
        try clear hf53
        try clear hf65
        try clear hf67
        obtain ⟨x15_4, rfl, HA, HK4, HO_5, HO_6, HO_13, HB⟩ := hrel
        cases gk with
        | zero => exact absurd HA.out (by simp [palingref21_Scan.l4])
        | succ k4 =>
         have H := HA.out
         clear HA
         simp only [palingref21_Scan.l4] at H
         by_cases c74 : x15_4 < (x13_3.length : Int)
         rotate_left
         ·rw [if_neg c74] at H
          have c74b0 : decide (x15_4 < (x13_3.length : Int)) = false := decide_eq_false c74
          clear c74
          by_cases c98 : 0 ≤ x15_4
          rotate_left
          ·rw [if_neg c98] at H
           exact absurd H (by simp)
          rw [if_pos c98] at H
          have c98b0 := eq_true c98
          have c98b1 : decide (0 ≤ x15_4) = true := decide_eq_true c98
          clear c98
          by_cases c99 : x15_4 ≤ (x13_3.length : Int)
          rotate_left
          ·rw [if_neg c99] at H
           exact absurd H (by simp)
          rw [if_pos c99] at H
          have c99b0 := eq_true c99
          have c99b1 : decide (x15_4 ≤ (x13_3.length : Int)) = true := decide_eq_true c99
          clear c99
          obtain ⟨y462, hy_⟩ : ∃ y_ : List (S57), y_ = (x13_3.take (x15_4 : Int).toNat) := ⟨_, rfl⟩
          replace H : (if ([] : List (S57)).length + y462.length < 8796093022208 then ((some (([] : List (S57)) ++ y462 : List (S57))).bind fun y466 => (if 0 ≤ x14_3 then (if x14_3 < (t418.length : Int) then (if x14_3 < (x6_2.length : Int) then (if y466.length < 8796093022208 then ((some (y466 ++ [(⟨(rd_T54 t418 x14_3).f0, rd x6_2 x14_3⟩ : S57)] : List (S57))).bind fun y471 => ((some (x13_3.drop (x15_4 : Int).toNat : List (S57))).bind fun y474 => (if y471.length + y474.length < 8796093022208 then (palingref21_Scan.l3 k4 t418 x6_2 (y471 ++ y474) (wrap64 (x14_3 + 1))) else (none)))) else (none)) else (none)) else (none)) else (none))) else (none)) = some r := aq3
          have Ny462 := Aside0.mk hy_
          clear hy_
          by_cases c100 : ([] : List (S57)).length + y462.length < 8796093022208
          rotate_left
          ·rw [if_neg c100] at H
           exact absurd H (by simp)
          rw [if_pos c100] at H
          have LMc100 := Aside0.mk c100
          clear c100
          obtain ⟨y466, hy_⟩ : ∃ y_ : List (S57), y_ = (([] : List (S57)) ++ y462) := ⟨_, rfl⟩
          replace H : (if 0 ≤ x14_3 then (if x14_3 < (t418.length : Int) then (if x14_3 < (x6_2.length : Int) then (if y466.length < 8796093022208 then ((some (y466 ++ [(⟨(rd_T54 t418 x14_3).f0, rd x6_2 x14_3⟩ : S57)] : List (S57))).bind fun y471 => ((some (x13_3.drop (x15_4 : Int).toNat : List (S57))).bind fun y474 => (if y471.length + y474.length < 8796093022208 then (palingref21_Scan.l3 k4 t418 x6_2 (y471 ++ y474) (wrap64 (x14_3 + 1))) else (none)))) else (none)) else (none)) else (none)) else (none)) = some r := aq3
          have Ny466 := Aside0.mk hy_
          clear hy_
          by_cases c101 : 0 ≤ x14_3
          rotate_left
          ·rw [if_neg c101] at H
           exact absurd H (by simp)
          rw [if_pos c101] at H
          have c101b0 : decide (0 ≤ x14_3) = true := decide_eq_true c101
          clear c101
          by_cases c102 : x14_3 < (t418.length : Int)
          rotate_left
          ·rw [if_neg c102] at H
           exact absurd H (by simp)
          rw [if_pos c102] at H
          have c102b0 : decide (x14_3 < (t418.length : Int)) = true := decide_eq_true c102
          clear c102
          by_cases c103 : x14_3 < (x6_2.length : Int)
          rotate_left
          ·rw [if_neg c103] at H
           exact absurd H (by simp)
          rw [if_pos c103] at H
          have c103b0 : decide (x14_3 < (x6_2.length : Int)) = true := decide_eq_true c103
          clear c103
          by_cases c104 : y466.length < 8796093022208
          rotate_left
          ·rw [if_neg c104] at H
           exact absurd H (by simp)
          rw [if_pos c104] at H
          have LMc104 := Aside0.mk c104
          clear c104
          obtain ⟨y471, hy_⟩ : ∃ y_ : List (S57), y_ = (y466 ++ [(⟨(rd_T54 t418 x14_3).f0, rd x6_2 x14_3⟩ : S57)]) := ⟨_, rfl⟩
          replace H : ((some (x13_3.drop (x15_4 : Int).toNat : List (S57))).bind fun y474 => (if y471.length + y474.length < 8796093022208 then (palingref21_Scan.l3 k4 t418 x6_2 (y471 ++ y474) (wrap64 (x14_3 + 1))) else (none))) = some r := aq3
          have Ny471 := Aside0.mk hy_
          clear hy_
          have c105b0 := eq_true (of_decide_eq_true aq2 : 0 ≤ x15_4)
          have c106b0 := eq_true (of_decide_eq_true aq2 : x15_4 ≤ (x13_3.length : Int))
          obtain ⟨y474, hy_⟩ : ∃ y_ : List (S57), y_ = (x13_3.drop (x15_4 : Int).toNat) := ⟨_, rfl⟩
          replace H : (if y471.length + y474.length < 8796093022208 then (palingref21_Scan.l3 k4 t418 x6_2 (y471 ++ y474) (wrap64 (x14_3 + 1))) else (none)) = some r := aq3
          have Ny474 := Aside0.mk hy_
          clear hy_
          by_cases c107 : y471.length + y474.length < 8796093022208
          rotate_left
          ·rw [if_neg c107] at H
           exact absurd H (by simp)
          rw [if_pos c107] at H
          have LMc107 := Aside0.mk c107
          clear c107
          obtain ⟨y478, hy_⟩ : ∃ y_ : List (S57), y_ = (y471 ++ y474) := ⟨_, rfl⟩
          replace H : (palingref21_Scan.l3 k4 t418 x6_2 y478 (wrap64 (x14_3 + 1))) = some r := aq3
          have Ny478 := Aside0.mk hy_
          clear hy_
          have H' := Aside0.mk H
          clear H
          try go_wp2
          replace HO_5 := Aside0.mk (Kd.R_drew HO_5.out)
          replace HO_6 := Aside0.mk (Kd.R_drew HO_6.out)
          replace HO_13 := Aside0.mk (Kd.R_drew HO_13.out)
          replace HB := Aside0.mk (below_drew1 HB.out)
          obtain ⟨Ao109, co109, eo109⟩ := Kd.R_slice HO_13.out
          (first | subst eo109 | (injection eo109 with f1_ f2_ f3_; have f4_ := f1_.symm; have f5_ := f3_.symm; clear f1_ f2_ f3_; subst f4_; subst f5_))
          refine start_ (n := 17) (S := fun w' => True) (ds := []) #[false, false, false, false, false, false, false, false, false, false, false, false, false, false, false, false, false] (by kernel_rfl) rfl rfl trivial (fun hHeld => ?_); refine with_tabW palingref21_Scan.tab33 palingref21_Scan.bits33 (fun HT_ HW_ => ?_)
          generalize wr.drew = w108 at HO_5 HO_6 HO_13 HB hHeld ⊢
          refine pz (i := 0) (N := some 101) (bz 17 1) rfl rfl ?_
          refine pz (i := 1) (N := some 102) (bz 17 3) rfl rfl ?_
          refine pz (i := 2) (N := some 103) (bz 17 7) rfl rfl ?_
          refine pz (i := 3) (N := some 104) (bz 17 15) rfl rfl ?_
          refine pz (i := 4) (N := some 105) (bz 17 31) rfl rfl ?_
          refine pu (i := 5) (N := some 106) (bz 17 63) rfl rfl ?_
          refine pu (i := 6) (N := some 107) (bz 17 127) rfl rfl ?_
          refine pu (i := 7) (N := some 108) (bz 17 255) rfl rfl ?_
          refine pu (i := 8) (N := some 109) (bz 17 511) rfl rfl ?_
          refine pu (i := 9) (N := some 110) (bz 17 1023) rfl rfl ?_
          refine pu (i := 10) (N := some 111) (bz 17 2047) rfl rfl ?_
          refine pu (i := 11) (N := some 112) (bz 17 4095) rfl rfl ?_
          refine pu (i := 12) (N := some 113) (bz 17 8191) rfl rfl ?_
          refine pu (i := 13) (N := some 114) (bz 17 16383) rfl rfl ?_
          refine pu (i := 14) (N := some 115) (bz 17 32767) rfl rfl ?_
          refine pu (i := 15) (N := some 116) (bz 17 65535) rfl rfl ?_
          refine pz (i := 16) (N := some 117) (bz 17 131071) rfl rfl ?_
          refine done_ (done_of HT_.out (by kernel_rfl)) ?_
          have q110 : (x15_4 : Int) ≤ ((x13_3.length : Int) : Int) := of_decide_eq_true aq2
          obtain ⟨i0110, hi0110, _, hsz110, _⟩ := info_parts info57
          have hroom110 : x13_3.length ≤ co109 := (Kd.R_reads' HO_13.out).2.1
          have hC110 : Kd.C k57 _ Ao109 x13_3.length x13_3 := (Kd.R_reads' HO_13.out).2.2
          have hcut110 := cut_to (P := Tryd.prog) 26 57 .i64 Tryd.underlying26 hi0110 Ao109 x13_3.length co109 x15_4 (of_decide_eq_true aq2) q110 hroom110
          have hr110 := Kd.C_take (m := (x15_4 : Int).toNat) hC110 (by omega)
          have hy110 : y462.length = (x15_4 : Int).toNat := (by rw [Ny462.out, List.length_take]; omega)
          rw [← Ny462.out] at hr110
          rw [← hy110] at hcut110
          have HR465 := Aside0.mk hr110
          have HC465 := Aside0.mk (show y462.length ≤ co109 from by omega)
          clear hr110 hC110 hroom110 hi0110 hsz110
          have KY110 := Aside0.mk hy110
          clear hy110
          have KL110 := Aside0.mk (show (x15_4 : Int).toNat ≤ x13_3.length from by omega)
          replace q110 := eq_true q110
          try go_wp2_with (first | ((with_reducible refine gate_builtin (b := .append) (xs := #[.tmp 120, .tmp 123]) rfl ?_); at_builtin; refine Kd.R_append_rows k57 (w0 := w) w.heap.size rfl (.tmp 120) (.tmp 123) 26 57 (.agg #[(.int .i64 0), (.int .i64 0)]) 16 rfl Tryd.underlying26 info57 rfl (by decide) (by omega) (.slice none 0 0) ([] : List (S57)) y462 _ _ _ (fun k_ => some k_ ≠ (.slice Ao109 x13_3.length co109 : Value).ownBlock) (fun _ => False) rfl rfl ?aO ?aR (fun _ _ h => h) (fun _ h => h.elim) ?aF ?aB ?aS ?aL ?_; (case aR => repeat (first | exact (by repeat (first | (with_reducible exact HR465.out) | (with_reducible refine Kd.C_alloc ?_ _) | (with_reducible refine Kd.C_drewN ?_ _) | (with_reducible refine Kd.C_drew ?_) | exact HR465.out)) | (with_reducible refine Kd.C_alloc ?_ _) | (with_reducible refine Kd.C_drewN ?_ _) | (with_reducible refine Kd.C_drew ?_))); (case aB => exact aq0); (case aF => exact (fun k_ hk => Kd.fresh' (Kd.R_lt aq35) k_ hk)); (case aO => exact ((Kd.R_nil _ _ _ _ (fun k_ => some k_ ≠ (.slice Ao109 x13_3.length co109 : Value).ownBlock)))); (case aS => exact (below_size aq0)); (case aL => have := LMc100.out; omega); intro v467 w111 ho hb hg hat; rw [← Ny466.out] at ho; have n0_ := Aside0.mk (Kd.R_grown aq10 hg (fun _ _ => by simp [Value.ownBlock])); have n1_ := Aside0.mk (Kd.R_grown aq14 hg (fun _ _ => by simp [Value.ownBlock])); have n2_ := Aside0.mk (Kd.R_after (Kd.R_apart_nil aq35) hg hat); have n3_ := Aside0.mk (hb); have n4_ := Aside0.mk ((show Kd.C k57 w111 Ao109 y462.length y462 from by rw [Ny462.out]; exact Kd.C_take (m := (x15_4 : Int).toNat) ((Kd.R_reads' (Kd.R_after (Kd.R_apart_nil aq35) hg hat)).2.2) KL110.out)); have n5_ := Aside0.mk (ho); clear HO_5; clear HO_6; clear HO_13; clear HB; clear HR465; have HO_5 := n0_; have HO_6 := n1_; have HO_13 := n2_; have HB := n3_; have HR465 := n4_; have HO468 := n5_; clear n0_ n1_ n2_ n3_ n4_ n5_; clear ho hb hg hat))
          replace HO_5 := Aside0.mk (Kd.R_drew HO_5.out)
          replace HO_6 := Aside0.mk (Kd.R_drew HO_6.out)
          replace HO_13 := Aside0.mk (Kd.R_drew HO_13.out)
          replace HO468 := Aside0.mk (Kd.R_drew HO468.out)
          replace HR465 := Aside0.mk (Kd.C_drew HR465.out)
          replace HB := Aside0.mk (below_drew1 HB.out)
          have p469 : 0 ≤ (x14_3 : Int) := of_decide_eq_true aq2
          have q469 : x14_3 < (t418.length : Int) := of_decide_eq_true aq2
          obtain ⟨ad469, e469, hx469_0, hx469_1, hx469_2⟩ := at_T54 (Kd.R_reads' HO_5.out).2.2 x14_3 p469 q469
          cases e469
          replace p469 := eq_true p469
          replace q469 := eq_true q469
          obtain ⟨Ao113, co113, eo113⟩ := Kd.R_slice HO_6.out
          (first | subst eo113 | (injection eo113 with f1_ f2_ f3_; have f4_ := f1_.symm; have f5_ := f3_.symm; clear f1_ f2_ f3_; subst f4_; subst f5_))
          have p470 : 0 ≤ (x14_3 : Int) := of_decide_eq_true aq2
          have q470 : x14_3 < (x6_2.length : Int) := of_decide_eq_true aq2
          obtain ⟨ad470, e470, hx470_0⟩ := Kd.at_int (Kd.R_reads' HO_6.out).2.2 x14_3 p470 q470
          cases e470
          replace p470 := eq_true p470
          replace q470 := eq_true q470
          refine start_ (n := 14) (S := fun w' => w'.cell? (ad469.add ((x14_3).toNat * 3)) = some (.int .i64 ((rd_T54 t418 x14_3).f0)) ∧ w'.cell? ⟨(ad469.add ((x14_3).toNat * 3)).block, (ad469.add ((x14_3).toNat * 3)).off + 1, none⟩ = some (.int .i64 ((rd_T54 t418 x14_3).f1)) ∧ w'.cell? ⟨(ad469.add ((x14_3).toNat * 3)).block, (ad469.add ((x14_3).toNat * 3)).off + 2, none⟩ = some (.int .i64 ((rd_T54 t418 x14_3).f2)) ∧ w'.cell? (ad470.add (x14_3).toNat) = some (.int .i64 (rd x6_2 x14_3))) (ds := [11, 12]) #[false, false, false, false, false, false, false, false, false, false, false, false, false, false] (by kernel_rfl) rfl rfl ⟨hx469_0, hx469_1, hx469_2, hx470_0⟩ (fun hHeld => ?_); refine with_tabW palingref21_Scan.tab37 palingref21_Scan.bits37 (fun HT_ HW_ => ?_)
          generalize w111.drew = w112 at HO_5 HO_6 HO_13 HO468 HR465 HB hx469_0 hx469_1 hx469_2 hx470_0 hHeld ⊢
          refine pz (i := 0) (N := some 125) (bz 14 1) rfl rfl ?_
          refine pz (i := 1) (N := some 126) (bz 14 3) rfl rfl ?_
          refine pz (i := 2) (N := some 127) (bz 14 7) rfl rfl ?_
          refine pz (i := 3) (N := some 128) (bz 14 15) rfl rfl ?_
          refine pz (i := 4) (N := some 129) (bz 14 31) rfl rfl ?_
          refine pz (i := 6) (N := some 131) (bz 14 95) rfl rfl ?_
          refine pz (i := 7) (N := some 132) (bz 14 223) rfl rfl ?_
          refine pz (i := 8) (N := some 133) (bz 14 479) rfl rfl ?_
          refine tz4 (i := 5) (N := some 130) (bz 14 511) rfl rfl hHeld ?_
          refine tz4 (i := 9) (N := some 134) (bz 14 1023) rfl rfl hHeld ?_
          refine pz (i := 10) (N := some 135) (bz 14 2047) rfl rfl ?_
          refine last_ (i := 11) (N := some 136) #[true, true, true, true, true, true, true, true, true, true, true, true, false, false] rfl rfl (one_of HT_.out (by kernel_rfl)) (by decide) (fun K hK => ?_)
          refine value_ (w1 := ?_) (v := ?_) (by rfl) rfl ?_ ?_
          rotate_left 2
          ·go_simp
           constructor
           ·rfl
           ·rfl
          refine hK.out _ _ ?_
          clear hK K
          refine norm_ (a' := ?_) ?_ ?_
          rotate_left
          ·show Act.put _ (some 136) _ = _
           simp only [Act.put, List.setIfInBounds_toArray, List.set_cons_zero, List.set_cons_succ, i64_w, i32_w]
           rfl
          refine last_ (i := 12) (N := some 137) #[true, true, true, true, true, true, true, true, true, true, true, true, true, false] rfl rfl (one_of HT_.out (by kernel_rfl)) (by decide) (fun K hK => ?_)
          refine Kd.R_append_step k57 (w0 := w) w.heap.size (by rfl) (.tmp 125) (.tmp 136) 26 57 (.agg #[(.int .i64 0), (.int .i64 0)]) 16 rfl Tryd.underlying26 info57 rfl (by decide) (by omega) v467 y466 (⟨(rd_T54 t418 x14_3).f0, rd x6_2 x14_3⟩ : S57) [.int .i64 ((rd_T54 t418 x14_3).f0), .int .i64 (rd x6_2 x14_3)] (fun k_ => some k_ ≠ (.slice Ao109 x13_3.length co109 : Value).ownBlock) (fun _ => False) rfl rfl ?aP (fun _ hk => hk.elim) ?aF ?aO ?aB ?aS ?aL ?_
          (case aP => exact k57_mkM _ _ _ (⟨(rd_T54 t418 x14_3).f0, rd x6_2 x14_3⟩ : S57))
          (case aB => exact aq0)
          (case aF => exact (fun k_ hk => Kd.fresh' (Kd.R_lt aq35) k_ hk))
          (case aO => exact aq66)
          (case aS => exact (below_size aq0))
          (case aL => have := LMc104.out; omega)
          intro v472 w114 ho hb hg hat
          rw [← Ny471.out] at ho
          have n0_ := Aside0.mk (Kd.R_over' aq10 (Kd.R_typed aq66) (by decide) hg)
          have n1_ := Aside0.mk (Kd.R_over' aq14 (Kd.R_typed aq66) (by decide) hg)
          have n2_ := Aside0.mk (Kd.R_after (ok := (fun _ => True)) aq35 hg hat)
          have n3_ := Aside0.mk (hb)
          have n4_ := Aside0.mk ((show Kd.C k57 w114 Ao109 y462.length y462 from by rw [Ny462.out]; exact Kd.C_take (m := (x15_4 : Int).toNat) ((Kd.R_reads' (Kd.R_after (ok := (fun _ => True)) aq35 hg hat)).2.2) KL110.out))
          have n5_ := Aside0.mk (ho)
          clear HO_5 HO_6 HO_13 HB HR465 HO468
          have HO_5 := n0_
          have HO_6 := n1_
          have HO_13 := n2_
          have HB := n3_
          have HR465 := n4_
          have HO473 := n5_
          clear n0_ n1_ n2_ n3_ n4_ n5_ ho hb hg hat
          refine hK.out _ _ ?_
          clear hK K
          refine norm_ (a' := ?_) ?_ ?_
          rotate_left
          ·show Act.put _ (some 137) _ = _
           simp only [Act.put, List.setIfInBounds_toArray, List.set_cons_zero, List.set_cons_succ, i64_w, i32_w]
           rfl
          refine pz (i := 13) (N := some 16) (bz 14 16383) rfl rfl ?_
          refine done_ (done_of HT_.out (by kernel_rfl)) ?_
          have q115 : (x15_4 : Int) ≤ ((x13_3.length : Int) : Int) := of_decide_eq_true aq2
          obtain ⟨i0115, hi0115, _, hsz115, _⟩ := info_parts info57
          have hroom115 : x13_3.length ≤ co109 := (Kd.R_reads' HO_13.out).2.1
          have hC115 : Kd.C k57 _ Ao109 x13_3.length x13_3 := (Kd.R_reads' HO_13.out).2.2
          have q0115 : (0 : Int) ≤ (x15_4 : Int) := of_decide_eq_true aq2
          have hcut115 := cut_from (P := Tryd.prog) 26 57 .i64 Tryd.underlying26 hi0115 2 hsz115 Ao109 x13_3.length co109 x15_4 q0115 q115
          have hr115 := Kd.C_drop (m := (x15_4 : Int).toNat) (c := co109) hC115 (by omega) hroom115
          obtain ⟨A115, hA115⟩ : ∃ A1, A1 = (if co109 = (x15_4 : Int).toNat then Ao109 else (Ao109 : Option Addr).map (·.add ((x15_4 : Int).toNat * 2))) := ⟨_, rfl⟩
          obtain ⟨c115, hc115⟩ : ∃ c1, c1 = co109 - (x15_4 : Int).toNat := ⟨_, rfl⟩
          have hy115 : y474.length = x13_3.length - (x15_4 : Int).toNat := (by rw [Ny474.out, List.length_drop] <;> omega)
          rw [show (x13_3).drop (x15_4 : Int).toNat = y474 from Ny474.out.symm] at hr115
          replace hr115 : Kd.C k57 _ A115 y474.length y474 := (by rw [hA115]; exact hr115)
          rw [← hy115, ← hA115, ← hc115] at hcut115
          have HR477 := Aside0.mk hr115
          have HC477 := Aside0.mk (show y474.length ≤ c115 from by rw [hy115, hc115]; exact Nat.sub_le_sub_right hroom115 _)
          clear hr115 hC115 hroom115 hi0115 hsz115 hc115
          have KY115 := Aside0.mk hy115
          have KA115 := Aside0.mk hA115
          clear hy115 hA115
          have KL115 := Aside0.mk (show (x15_4 : Int).toNat ≤ x13_3.length from by omega)
          replace q115 := eq_true q115
          try go_wp2_with (first | ((with_reducible refine gate_builtin (b := .append) (xs := #[.tmp 138, .tmp 141]) rfl ?_); at_builtin; refine Kd.R_append_rows k57 (w0 := w) w.heap.size rfl (.tmp 138) (.tmp 141) 26 57 (.agg #[(.int .i64 0), (.int .i64 0)]) 16 rfl Tryd.underlying26 info57 rfl (by decide) (by omega) v472 y471 y474 _ _ _ (fun k_ => some k_ ≠ (.slice Ao109 x13_3.length co109 : Value).ownBlock) (fun _ => False) rfl rfl ?aO ?aR (fun _ _ h => h) (fun _ h => h.elim) ?aF ?aB ?aS ?aL ?_; (case aR => repeat (first | exact (by repeat (first | (with_reducible exact HR477.out) | (with_reducible refine Kd.C_alloc ?_ _) | (with_reducible refine Kd.C_drewN ?_ _) | (with_reducible refine Kd.C_drew ?_) | exact HR477.out)) | (with_reducible refine Kd.C_alloc ?_ _) | (with_reducible refine Kd.C_drewN ?_ _) | (with_reducible refine Kd.C_drew ?_))); (case aB => exact aq0); (case aF => exact (fun k_ hk => Kd.fresh' (Kd.R_lt aq35) k_ hk)); (case aO => exact (by (with_reducible repeat (first | apply Kd.R_alloc | apply Kd.R_drewN | apply Kd.R_drew)); exact HO473.out)); (case aS => exact (below_size aq0)); (case aL => have := LMc107.out; omega); intro v479 w116 ho hb hg hat; rw [← Ny478.out] at ho; have n0_ := Aside0.mk (Kd.R_over' aq10 (Kd.R_typed (by (with_reducible repeat (first | apply Kd.R_alloc | apply Kd.R_drewN | apply Kd.R_drew)); exact HO473.out)) (by decide) hg); have n1_ := Aside0.mk (Kd.R_over' aq14 (Kd.R_typed (by (with_reducible repeat (first | apply Kd.R_alloc | apply Kd.R_drewN | apply Kd.R_drew)); exact HO473.out)) (by decide) hg); have n2_ := Aside0.mk (Kd.R_after (ok := (fun _ => True)) aq35 hg hat); have n3_ := Aside0.mk (hb); have n4_ := Aside0.mk ((show Kd.C k57 w116 Ao109 y462.length y462 from by rw [Ny462.out]; exact Kd.C_take (m := (x15_4 : Int).toNat) ((Kd.R_reads' (Kd.R_after (ok := (fun _ => True)) aq35 hg hat)).2.2) KL110.out)); have n5_ := Aside0.mk ((show Kd.C k57 w116 A115 y474.length y474 from by rw [Ny474.out, KA115.out]; exact Kd.C_drop (m := (x15_4 : Int).toNat) (c := co109) ((Kd.R_reads' (Kd.R_after (ok := (fun _ => True)) aq35 hg hat)).2.2) KL115.out ((Kd.R_reads' (Kd.R_after (ok := (fun _ => True)) aq35 hg hat)).2.1))); have n6_ := Aside0.mk (ho); clear HO_5; clear HO_6; clear HO_13; clear HB; clear HR465; clear HR477; clear HO473; have HO_5 := n0_; have HO_6 := n1_; have HO_13 := n2_; have HB := n3_; have HR465 := n4_; have HR477 := n5_; have HO480 := n6_; clear n0_ n1_ n2_ n3_ n4_ n5_ n6_; clear ho hb hg hat))
          go_roundg k4
          case measure => have := HK1.out; have := HK2.out; have := HK3.out; have := HK4.out; omega
          case rel => exact ⟨(y478), (wrap64 (x14_3 + 1)), aq7, H', ⟨aq71⟩, ⟨aq10⟩, ⟨aq14⟩, ⟨by (with_reducible repeat (first | apply Kd.R_alloc | apply Kd.R_drewN | apply Kd.R_drew)); exact Kd.R_mono HO480.out (fun _ hk => trivial)⟩, ⟨aq0⟩⟩
         rw [if_pos c74] at H
         have c74b0 : decide (x15_4 < (x13_3.length : Int)) = true := decide_eq_true c74
         clear c74
         by_cases c75 : 0 ≤ x15_4
         rotate_left
         ·rw [if_neg c75] at H
          exact absurd H (by simp)
         rw [if_pos c75] at H
         have c75b0 : decide (0 ≤ x15_4) = true := decide_eq_true c75
         clear c75
         by_cases c76 : 0 ≤ x14_3
         rotate_left
         ·rw [if_neg c76] at H
          exact absurd H (by simp)
         rw [if_pos c76] at H
         have c76b0 : decide (0 ≤ x14_3) = true := decide_eq_true c76
         clear c76
         by_cases c77 : x14_3 < (t418.length : Int)
         rotate_left
         ·rw [if_neg c77] at H
          exact absurd H (by simp)
         rw [if_pos c77] at H
         have c77b0 : decide (x14_3 < (t418.length : Int)) = true := decide_eq_true c77
         clear c77
         by_cases c78 : ((rd_T57 x13_3 x15_4).f0) < ((rd_T54 t418 x14_3).f0)
         ·rw [if_pos c78] at H
          have c78b0 : decide (((rd_T57 x13_3 x15_4).f0) < ((rd_T54 t418 x14_3).f0)) = true := decide_eq_true c78
          clear c78
          have H' := Aside0.mk H
          clear H
          try go_wp2
          replace HO_5 := Aside0.mk (Kd.R_drew HO_5.out)
          replace HO_6 := Aside0.mk (Kd.R_drew HO_6.out)
          replace HO_13 := Aside0.mk (Kd.R_drew HO_13.out)
          replace HB := Aside0.mk (below_drew1 HB.out)
          obtain ⟨Ao80, co80, eo80⟩ := Kd.R_slice HO_13.out
          (first | subst eo80 | (injection eo80 with f1_ f2_ f3_; have f4_ := f1_.symm; have f5_ := f3_.symm; clear f1_ f2_ f3_; subst f4_; subst f5_))
          have p441 : 0 ≤ (x15_4 : Int) := of_decide_eq_true aq2
          have q441 : x15_4 < (x13_3.length : Int) := of_decide_eq_true aq2
          obtain ⟨ad441, e441, hx441_0, hx441_1⟩ := at_T57 (Kd.R_reads' HO_13.out).2.2 x15_4 p441 q441
          cases e441
          replace p441 := eq_true p441
          replace q441 := eq_true q441
          have p442 : 0 ≤ (x14_3 : Int) := of_decide_eq_true aq2
          have q442 : x14_3 < (t418.length : Int) := of_decide_eq_true aq2
          obtain ⟨ad442, e442, hx442_0, hx442_1, hx442_2⟩ := at_T54 (Kd.R_reads' HO_5.out).2.2 x14_3 p442 q442
          cases e442
          replace p442 := eq_true p442
          replace q442 := eq_true q442
          refine start_ (n := 17) (S := fun w' => w'.cell? (ad441.add ((x15_4).toNat * 2)) = some (.int .i64 ((rd_T57 x13_3 x15_4).f0)) ∧ w'.cell? ⟨(ad441.add ((x15_4).toNat * 2)).block, (ad441.add ((x15_4).toNat * 2)).off + 1, none⟩ = some (.int .i64 ((rd_T57 x13_3 x15_4).f1)) ∧ w'.cell? (ad442.add ((x14_3).toNat * 3)) = some (.int .i64 ((rd_T54 t418 x14_3).f0)) ∧ w'.cell? ⟨(ad442.add ((x14_3).toNat * 3)).block, (ad442.add ((x14_3).toNat * 3)).off + 1, none⟩ = some (.int .i64 ((rd_T54 t418 x14_3).f1)) ∧ w'.cell? ⟨(ad442.add ((x14_3).toNat * 3)).block, (ad442.add ((x14_3).toNat * 3)).off + 2, none⟩ = some (.int .i64 ((rd_T54 t418 x14_3).f2))) (ds := []) #[false, false, false, false, false, false, false, false, false, false, false, false, false, false, false, false, false] (by kernel_rfl) rfl rfl ⟨hx441_0, hx441_1, hx442_0, hx442_1, hx442_2⟩ (fun hHeld => ?_); refine with_tabW palingref21_Scan.tab33 palingref21_Scan.bits33 (fun HT_ HW_ => ?_)
          generalize wr.drew = w79 at HO_5 HO_6 HO_13 HB hx441_0 hx441_1 hx442_0 hx442_1 hx442_2 hHeld ⊢
          refine pz (i := 0) (N := some 101) (bz 17 1) rfl rfl ?_
          refine pz (i := 1) (N := some 102) (bz 17 3) rfl rfl ?_
          refine pz (i := 2) (N := some 103) (bz 17 7) rfl rfl ?_
          refine pz (i := 3) (N := some 104) (bz 17 15) rfl rfl ?_
          refine pz (i := 4) (N := some 105) (bz 17 31) rfl rfl ?_
          refine pz (i := 5) (N := some 106) (bz 17 63) rfl rfl ?_
          refine pz (i := 6) (N := some 107) (bz 17 127) rfl rfl ?_
          refine pz (i := 7) (N := some 108) (bz 17 255) rfl rfl ?_
          refine pz (i := 8) (N := some 109) (bz 17 511) rfl rfl ?_
          refine pz (i := 10) (N := some 111) (bz 17 1535) rfl rfl ?_
          refine pz (i := 11) (N := some 112) (bz 17 3583) rfl rfl ?_
          refine pz (i := 12) (N := some 113) (bz 17 7679) rfl rfl ?_
          refine pz (i := 13) (N := some 114) (bz 17 15871) rfl rfl ?_
          refine tz5 (i := 9) (N := some 110) (bz 17 16383) rfl rfl hHeld ?_
          refine tz5 (i := 14) (N := some 115) (bz 17 32767) rfl rfl hHeld ?_
          refine pz (i := 15) (N := some 116) (bz 17 65535) rfl rfl ?_
          refine pz (i := 16) (N := some 117) (bz 17 131071) rfl rfl ?_
          refine done_ (done_of HT_.out (by kernel_rfl)) ?_
          try go_wp2
          go_roundg k4
          case measure => have := HK1.out; have := HK2.out; have := HK3.out; have := HK4.out; omega
          case rel => exact ⟨(wrap64 (x15_4 + 1)), aq7, H', ⟨aq71⟩, ⟨aq10⟩, ⟨aq14⟩, ⟨aq35⟩, ⟨aq0⟩⟩
         rw [if_neg c78] at H
         have c78b0 : decide (((rd_T57 x13_3 x15_4).f0) < ((rd_T54 t418 x14_3).f0)) = false := decide_eq_false c78
         clear c78
         have c81b0 := eq_true (of_decide_eq_true aq2 : 0 ≤ x15_4)
         by_cases c82 : x15_4 ≤ (x13_3.length : Int)
         rotate_left
         ·rw [if_neg c82] at H
          exact absurd H (by simp)
         rw [if_pos c82] at H
         have c82b0 := eq_true c82
         have c82b1 : decide (x15_4 ≤ (x13_3.length : Int)) = true := decide_eq_true c82
         clear c82
         obtain ⟨y443, hy_⟩ : ∃ y_ : List (S57), y_ = (x13_3.take (x15_4 : Int).toNat) := ⟨_, rfl⟩
         replace H : (if ([] : List (S57)).length + y443.length < 8796093022208 then ((some (([] : List (S57)) ++ y443 : List (S57))).bind fun y447 => (if x14_3 < (x6_2.length : Int) then (if y447.length < 8796093022208 then ((some (y447 ++ [(⟨(rd_T54 t418 x14_3).f0, rd x6_2 x14_3⟩ : S57)] : List (S57))).bind fun y452 => ((some (x13_3.drop (x15_4 : Int).toNat : List (S57))).bind fun y455 => (if y452.length + y455.length < 8796093022208 then (palingref21_Scan.l3 k4 t418 x6_2 (y452 ++ y455) (wrap64 (x14_3 + 1))) else (none)))) else (none)) else (none))) else (none)) = some r := aq3
         have Ny443 := Aside0.mk hy_
         clear hy_
         by_cases c83 : ([] : List (S57)).length + y443.length < 8796093022208
         rotate_left
         ·rw [if_neg c83] at H
          exact absurd H (by simp)
         rw [if_pos c83] at H
         have LMc83 := Aside0.mk c83
         clear c83
         obtain ⟨y447, hy_⟩ : ∃ y_ : List (S57), y_ = (([] : List (S57)) ++ y443) := ⟨_, rfl⟩
         replace H : (if x14_3 < (x6_2.length : Int) then (if y447.length < 8796093022208 then ((some (y447 ++ [(⟨(rd_T54 t418 x14_3).f0, rd x6_2 x14_3⟩ : S57)] : List (S57))).bind fun y452 => ((some (x13_3.drop (x15_4 : Int).toNat : List (S57))).bind fun y455 => (if y452.length + y455.length < 8796093022208 then (palingref21_Scan.l3 k4 t418 x6_2 (y452 ++ y455) (wrap64 (x14_3 + 1))) else (none)))) else (none)) else (none)) = some r := aq3
         have Ny447 := Aside0.mk hy_
         clear hy_
         by_cases c84 : x14_3 < (x6_2.length : Int)
         rotate_left
         ·rw [if_neg c84] at H
          exact absurd H (by simp)
         rw [if_pos c84] at H
         have c84b0 : decide (x14_3 < (x6_2.length : Int)) = true := decide_eq_true c84
         clear c84
         by_cases c85 : y447.length < 8796093022208
         rotate_left
         ·rw [if_neg c85] at H
          exact absurd H (by simp)
         rw [if_pos c85] at H
         have LMc85 := Aside0.mk c85
         clear c85
         obtain ⟨y452, hy_⟩ : ∃ y_ : List (S57), y_ = (y447 ++ [(⟨(rd_T54 t418 x14_3).f0, rd x6_2 x14_3⟩ : S57)]) := ⟨_, rfl⟩
         replace H : ((some (x13_3.drop (x15_4 : Int).toNat : List (S57))).bind fun y455 => (if y452.length + y455.length < 8796093022208 then (palingref21_Scan.l3 k4 t418 x6_2 (y452 ++ y455) (wrap64 (x14_3 + 1))) else (none))) = some r := aq3
         have Ny452 := Aside0.mk hy_
         clear hy_
         have c86b0 := eq_true (of_decide_eq_true aq2 : 0 ≤ x15_4)
         have c87b0 := eq_true (of_decide_eq_true aq2 : x15_4 ≤ (x13_3.length : Int))
         obtain ⟨y455, hy_⟩ : ∃ y_ : List (S57), y_ = (x13_3.drop (x15_4 : Int).toNat) := ⟨_, rfl⟩
         replace H : (if y452.length + y455.length < 8796093022208 then (palingref21_Scan.l3 k4 t418 x6_2 (y452 ++ y455) (wrap64 (x14_3 + 1))) else (none)) = some r := aq3
         have Ny455 := Aside0.mk hy_
         clear hy_
         by_cases c88 : y452.length + y455.length < 8796093022208
         rotate_left
         ·rw [if_neg c88] at H
          exact absurd H (by simp)
         rw [if_pos c88] at H
         have LMc88 := Aside0.mk c88
         clear c88
         obtain ⟨y459, hy_⟩ : ∃ y_ : List (S57), y_ = (y452 ++ y455) := ⟨_, rfl⟩
         replace H : (palingref21_Scan.l3 k4 t418 x6_2 y459 (wrap64 (x14_3 + 1))) = some r := aq3
         have Ny459 := Aside0.mk hy_
         clear hy_
         have H' := Aside0.mk H
         clear H
         try go_wp2
         replace HO_5 := Aside0.mk (Kd.R_drew HO_5.out)
         replace HO_6 := Aside0.mk (Kd.R_drew HO_6.out)
         replace HO_13 := Aside0.mk (Kd.R_drew HO_13.out)
         replace HB := Aside0.mk (below_drew1 HB.out)
         obtain ⟨Ao90, co90, eo90⟩ := Kd.R_slice HO_13.out
         (first | subst eo90 | (injection eo90 with f1_ f2_ f3_; have f4_ := f1_.symm; have f5_ := f3_.symm; clear f1_ f2_ f3_; subst f4_; subst f5_))
         have p441 : 0 ≤ (x15_4 : Int) := of_decide_eq_true aq2
         have q441 : x15_4 < (x13_3.length : Int) := of_decide_eq_true aq2
         obtain ⟨ad441, e441, hx441_0, hx441_1⟩ := at_T57 (Kd.R_reads' HO_13.out).2.2 x15_4 p441 q441
         cases e441
         replace p441 := eq_true p441
         replace q441 := eq_true q441
         have p442 : 0 ≤ (x14_3 : Int) := of_decide_eq_true aq2
         have q442 : x14_3 < (t418.length : Int) := of_decide_eq_true aq2
         obtain ⟨ad442, e442, hx442_0, hx442_1, hx442_2⟩ := at_T54 (Kd.R_reads' HO_5.out).2.2 x14_3 p442 q442
         cases e442
         replace p442 := eq_true p442
         replace q442 := eq_true q442
         refine start_ (n := 17) (S := fun w' => w'.cell? (ad441.add ((x15_4).toNat * 2)) = some (.int .i64 ((rd_T57 x13_3 x15_4).f0)) ∧ w'.cell? ⟨(ad441.add ((x15_4).toNat * 2)).block, (ad441.add ((x15_4).toNat * 2)).off + 1, none⟩ = some (.int .i64 ((rd_T57 x13_3 x15_4).f1)) ∧ w'.cell? (ad442.add ((x14_3).toNat * 3)) = some (.int .i64 ((rd_T54 t418 x14_3).f0)) ∧ w'.cell? ⟨(ad442.add ((x14_3).toNat * 3)).block, (ad442.add ((x14_3).toNat * 3)).off + 1, none⟩ = some (.int .i64 ((rd_T54 t418 x14_3).f1)) ∧ w'.cell? ⟨(ad442.add ((x14_3).toNat * 3)).block, (ad442.add ((x14_3).toNat * 3)).off + 2, none⟩ = some (.int .i64 ((rd_T54 t418 x14_3).f2))) (ds := []) #[false, false, false, false, false, false, false, false, false, false, false, false, false, false, false, false, false] (by kernel_rfl) rfl rfl ⟨hx441_0, hx441_1, hx442_0, hx442_1, hx442_2⟩ (fun hHeld => ?_); refine with_tabW palingref21_Scan.tab33 palingref21_Scan.bits33 (fun HT_ HW_ => ?_)
         generalize wr.drew = w89 at HO_5 HO_6 HO_13 HB hx441_0 hx441_1 hx442_0 hx442_1 hx442_2 hHeld ⊢
         refine pz (i := 0) (N := some 101) (bz 17 1) rfl rfl ?_
         refine pz (i := 1) (N := some 102) (bz 17 3) rfl rfl ?_
         refine pz (i := 2) (N := some 103) (bz 17 7) rfl rfl ?_
         refine pz (i := 3) (N := some 104) (bz 17 15) rfl rfl ?_
         refine pz (i := 4) (N := some 105) (bz 17 31) rfl rfl ?_
         refine pz (i := 5) (N := some 106) (bz 17 63) rfl rfl ?_
         refine pz (i := 6) (N := some 107) (bz 17 127) rfl rfl ?_
         refine pz (i := 7) (N := some 108) (bz 17 255) rfl rfl ?_
         refine pz (i := 8) (N := some 109) (bz 17 511) rfl rfl ?_
         refine pz (i := 10) (N := some 111) (bz 17 1535) rfl rfl ?_
         refine pz (i := 11) (N := some 112) (bz 17 3583) rfl rfl ?_
         refine pz (i := 12) (N := some 113) (bz 17 7679) rfl rfl ?_
         refine pz (i := 13) (N := some 114) (bz 17 15871) rfl rfl ?_
         refine tz5 (i := 9) (N := some 110) (bz 17 16383) rfl rfl hHeld ?_
         refine tz5 (i := 14) (N := some 115) (bz 17 32767) rfl rfl hHeld ?_
         refine pz (i := 15) (N := some 116) (bz 17 65535) rfl rfl ?_
         refine pz (i := 16) (N := some 117) (bz 17 131071) rfl rfl ?_
         refine done_ (done_of HT_.out (by kernel_rfl)) ?_
         have q91 : (x15_4 : Int) ≤ ((x13_3.length : Int) : Int) := of_decide_eq_true aq2
         obtain ⟨i091, hi091, _, hsz91, _⟩ := info_parts info57
         have hroom91 : x13_3.length ≤ co90 := (Kd.R_reads' HO_13.out).2.1
         have hC91 : Kd.C k57 _ (some ad441) x13_3.length x13_3 := (Kd.R_reads' HO_13.out).2.2
         have hcut91 := cut_to (P := Tryd.prog) 26 57 .i64 Tryd.underlying26 hi091 (some ad441) x13_3.length co90 x15_4 (of_decide_eq_true aq2) q91 hroom91
         have hr91 := Kd.C_take (m := (x15_4 : Int).toNat) hC91 (by omega)
         have hy91 : y443.length = (x15_4 : Int).toNat := (by rw [Ny443.out, List.length_take]; omega)
         rw [← Ny443.out] at hr91
         rw [← hy91] at hcut91
         have HR446 := Aside0.mk hr91
         have HC446 := Aside0.mk (show y443.length ≤ co90 from by omega)
         clear hr91 hC91 hroom91 hi091 hsz91
         have KY91 := Aside0.mk hy91
         clear hy91
         have KL91 := Aside0.mk (show (x15_4 : Int).toNat ≤ x13_3.length from by omega)
         replace q91 := eq_true q91
         try go_wp2_with (first | ((with_reducible refine gate_builtin (b := .append) (xs := #[.tmp 120, .tmp 123]) rfl ?_); at_builtin; refine Kd.R_append_rows k57 (w0 := w) w.heap.size rfl (.tmp 120) (.tmp 123) 26 57 (.agg #[(.int .i64 0), (.int .i64 0)]) 16 rfl Tryd.underlying26 info57 rfl (by decide) (by omega) (.slice none 0 0) ([] : List (S57)) y443 _ _ _ (fun k_ => some k_ ≠ (.slice (some ad441) x13_3.length co90 : Value).ownBlock) (fun _ => False) rfl rfl ?aO ?aR (fun _ _ h => h) (fun _ h => h.elim) ?aF ?aB ?aS ?aL ?_; (case aR => repeat (first | exact (by repeat (first | (with_reducible exact HR446.out) | (with_reducible refine Kd.C_alloc ?_ _) | (with_reducible refine Kd.C_drewN ?_ _) | (with_reducible refine Kd.C_drew ?_) | exact HR446.out)) | (with_reducible refine Kd.C_alloc ?_ _) | (with_reducible refine Kd.C_drewN ?_ _) | (with_reducible refine Kd.C_drew ?_))); (case aB => exact aq0); (case aF => exact (fun k_ hk => Kd.fresh' (Kd.R_lt aq35) k_ hk)); (case aO => exact ((Kd.R_nil _ _ _ _ (fun k_ => some k_ ≠ (.slice (some ad441) x13_3.length co90 : Value).ownBlock)))); (case aS => exact (below_size aq0)); (case aL => have := LMc83.out; omega); intro v448 w92 ho hb hg hat; rw [← Ny447.out] at ho; have n0_ := Aside0.mk (Kd.R_grown aq10 hg (fun _ _ => by simp [Value.ownBlock])); have n1_ := Aside0.mk (Kd.R_grown aq14 hg (fun _ _ => by simp [Value.ownBlock])); have n2_ := Aside0.mk (Kd.R_after (Kd.R_apart_nil aq35) hg hat); have n3_ := Aside0.mk (hb); have n4_ := Aside0.mk ((show Kd.C k57 w92 (some ad441) y443.length y443 from by rw [Ny443.out]; exact Kd.C_take (m := (x15_4 : Int).toNat) ((Kd.R_reads' (Kd.R_after (Kd.R_apart_nil aq35) hg hat)).2.2) KL91.out)); have n5_ := Aside0.mk (ho); clear HO_5; clear HO_6; clear HO_13; clear HB; clear HR446; have HO_5 := n0_; have HO_6 := n1_; have HO_13 := n2_; have HB := n3_; have HR446 := n4_; have HO449 := n5_; clear n0_ n1_ n2_ n3_ n4_ n5_; clear ho hb hg hat))
         replace HO_5 := Aside0.mk (Kd.R_drew HO_5.out)
         replace HO_6 := Aside0.mk (Kd.R_drew HO_6.out)
         replace HO_13 := Aside0.mk (Kd.R_drew HO_13.out)
         replace HO449 := Aside0.mk (Kd.R_drew HO449.out)
         replace HR446 := Aside0.mk (Kd.C_drew HR446.out)
         replace HB := Aside0.mk (below_drew1 HB.out)
         have p450 : 0 ≤ (x14_3 : Int) := of_decide_eq_true aq2
         have q450 : x14_3 < (t418.length : Int) := of_decide_eq_true aq2
         obtain ⟨ad450, e450, hx450_0, hx450_1, hx450_2⟩ := at_T54 (Kd.R_reads' HO_5.out).2.2 x14_3 p450 q450
         obtain rfl : ad442 = ad450 := (by injection e450)
         replace p450 := eq_true p450
         replace q450 := eq_true q450
         obtain ⟨Ao94, co94, eo94⟩ := Kd.R_slice HO_6.out
         (first | subst eo94 | (injection eo94 with f1_ f2_ f3_; have f4_ := f1_.symm; have f5_ := f3_.symm; clear f1_ f2_ f3_; subst f4_; subst f5_))
         have p451 : 0 ≤ (x14_3 : Int) := of_decide_eq_true aq2
         have q451 : x14_3 < (x6_2.length : Int) := of_decide_eq_true aq2
         obtain ⟨ad451, e451, hx451_0⟩ := Kd.at_int (Kd.R_reads' HO_6.out).2.2 x14_3 p451 q451
         cases e451
         replace p451 := eq_true p451
         replace q451 := eq_true q451
         refine start_ (n := 14) (S := fun w' => w'.cell? (ad442.add ((x14_3).toNat * 3)) = some (.int .i64 ((rd_T54 t418 x14_3).f0)) ∧ w'.cell? ⟨(ad442.add ((x14_3).toNat * 3)).block, (ad442.add ((x14_3).toNat * 3)).off + 1, none⟩ = some (.int .i64 ((rd_T54 t418 x14_3).f1)) ∧ w'.cell? ⟨(ad442.add ((x14_3).toNat * 3)).block, (ad442.add ((x14_3).toNat * 3)).off + 2, none⟩ = some (.int .i64 ((rd_T54 t418 x14_3).f2)) ∧ w'.cell? (ad451.add (x14_3).toNat) = some (.int .i64 (rd x6_2 x14_3))) (ds := [11, 12]) #[false, false, false, false, false, false, false, false, false, false, false, false, false, false] (by kernel_rfl) rfl rfl ⟨hx450_0, hx450_1, hx450_2, hx451_0⟩ (fun hHeld => ?_); refine with_tabW palingref21_Scan.tab37 palingref21_Scan.bits37 (fun HT_ HW_ => ?_)
         generalize w92.drew = w93 at HO_5 HO_6 HO_13 HO449 HR446 HB hx450_0 hx450_1 hx450_2 hx451_0 hHeld ⊢
         refine pz (i := 0) (N := some 125) (bz 14 1) rfl rfl ?_
         refine pz (i := 1) (N := some 126) (bz 14 3) rfl rfl ?_
         refine pz (i := 2) (N := some 127) (bz 14 7) rfl rfl ?_
         refine pz (i := 3) (N := some 128) (bz 14 15) rfl rfl ?_
         refine pz (i := 4) (N := some 129) (bz 14 31) rfl rfl ?_
         refine pz (i := 6) (N := some 131) (bz 14 95) rfl rfl ?_
         refine pz (i := 7) (N := some 132) (bz 14 223) rfl rfl ?_
         refine pz (i := 8) (N := some 133) (bz 14 479) rfl rfl ?_
         refine tz4 (i := 5) (N := some 130) (bz 14 511) rfl rfl hHeld ?_
         refine tz4 (i := 9) (N := some 134) (bz 14 1023) rfl rfl hHeld ?_
         refine pz (i := 10) (N := some 135) (bz 14 2047) rfl rfl ?_
         refine last_ (i := 11) (N := some 136) #[true, true, true, true, true, true, true, true, true, true, true, true, false, false] rfl rfl (one_of HT_.out (by kernel_rfl)) (by decide) (fun K hK => ?_)
         refine value_ (w1 := ?_) (v := ?_) (by rfl) rfl ?_ ?_
         rotate_left 2
         ·go_simp
          constructor
          ·rfl
          ·rfl
         refine hK.out _ _ ?_
         clear hK K
         refine norm_ (a' := ?_) ?_ ?_
         rotate_left
         ·show Act.put _ (some 136) _ = _
          simp only [Act.put, List.setIfInBounds_toArray, List.set_cons_zero, List.set_cons_succ, i64_w, i32_w]
          rfl
         refine last_ (i := 12) (N := some 137) #[true, true, true, true, true, true, true, true, true, true, true, true, true, false] rfl rfl (one_of HT_.out (by kernel_rfl)) (by decide) (fun K hK => ?_)
         refine Kd.R_append_step k57 (w0 := w) w.heap.size (by rfl) (.tmp 125) (.tmp 136) 26 57 (.agg #[(.int .i64 0), (.int .i64 0)]) 16 rfl Tryd.underlying26 info57 rfl (by decide) (by omega) v448 y447 (⟨(rd_T54 t418 x14_3).f0, rd x6_2 x14_3⟩ : S57) [.int .i64 ((rd_T54 t418 x14_3).f0), .int .i64 (rd x6_2 x14_3)] (fun k_ => some k_ ≠ (.slice (some ad441) x13_3.length co90 : Value).ownBlock) (fun _ => False) rfl rfl ?aP (fun _ hk => hk.elim) ?aF ?aO ?aB ?aS ?aL ?_
         (case aP => exact k57_mkM _ _ _ (⟨(rd_T54 t418 x14_3).f0, rd x6_2 x14_3⟩ : S57))
         (case aB => exact aq0)
         (case aF => exact (fun k_ hk => Kd.fresh' (Kd.R_lt aq35) k_ hk))
         (case aO => exact aq67)
         (case aS => exact (below_size aq0))
         (case aL => have := LMc85.out; omega)
         intro v453 w95 ho hb hg hat
         rw [← Ny452.out] at ho
         have n0_ := Aside0.mk (Kd.R_over' aq10 (Kd.R_typed aq67) (by decide) hg)
         have n1_ := Aside0.mk (Kd.R_over' aq14 (Kd.R_typed aq67) (by decide) hg)
         have n2_ := Aside0.mk (Kd.R_after (ok := (fun _ => True)) aq35 hg hat)
         have n3_ := Aside0.mk (hb)
         have n4_ := Aside0.mk ((show Kd.C k57 w95 (some ad441) y443.length y443 from by rw [Ny443.out]; exact Kd.C_take (m := (x15_4 : Int).toNat) ((Kd.R_reads' (Kd.R_after (ok := (fun _ => True)) aq35 hg hat)).2.2) KL91.out))
         have n5_ := Aside0.mk (ho)
         clear HO_5 HO_6 HO_13 HB HR446 HO449
         have HO_5 := n0_
         have HO_6 := n1_
         have HO_13 := n2_
         have HB := n3_
         have HR446 := n4_
         have HO454 := n5_
         clear n0_ n1_ n2_ n3_ n4_ n5_ ho hb hg hat
         refine hK.out _ _ ?_
         clear hK K
         refine norm_ (a' := ?_) ?_ ?_
         rotate_left
         ·show Act.put _ (some 137) _ = _
          simp only [Act.put, List.setIfInBounds_toArray, List.set_cons_zero, List.set_cons_succ, i64_w, i32_w]
          rfl
         refine pz (i := 13) (N := some 16) (bz 14 16383) rfl rfl ?_
         refine done_ (done_of HT_.out (by kernel_rfl)) ?_
         have q96 : (x15_4 : Int) ≤ ((x13_3.length : Int) : Int) := of_decide_eq_true aq2
         obtain ⟨i096, hi096, _, hsz96, _⟩ := info_parts info57
         have hroom96 : x13_3.length ≤ co90 := (Kd.R_reads' HO_13.out).2.1
         have hC96 : Kd.C k57 _ (some ad441) x13_3.length x13_3 := (Kd.R_reads' HO_13.out).2.2
         have q096 : (0 : Int) ≤ (x15_4 : Int) := of_decide_eq_true aq2
         have hcut96 := cut_from (P := Tryd.prog) 26 57 .i64 Tryd.underlying26 hi096 2 hsz96 (some ad441) x13_3.length co90 x15_4 q096 q96
         have hr96 := Kd.C_drop (m := (x15_4 : Int).toNat) (c := co90) hC96 (by omega) hroom96
         obtain ⟨A96, hA96⟩ : ∃ A1, A1 = (if co90 = (x15_4 : Int).toNat then (some ad441) else ((some ad441) : Option Addr).map (·.add ((x15_4 : Int).toNat * 2))) := ⟨_, rfl⟩
         obtain ⟨c96, hc96⟩ : ∃ c1, c1 = co90 - (x15_4 : Int).toNat := ⟨_, rfl⟩
         have hy96 : y455.length = x13_3.length - (x15_4 : Int).toNat := (by rw [Ny455.out, List.length_drop] <;> omega)
         rw [show (x13_3).drop (x15_4 : Int).toNat = y455 from Ny455.out.symm] at hr96
         replace hr96 : Kd.C k57 _ A96 y455.length y455 := (by rw [hA96]; exact hr96)
         rw [← hy96, ← hA96, ← hc96] at hcut96
         have HR458 := Aside0.mk hr96
         have HC458 := Aside0.mk (show y455.length ≤ c96 from by rw [hy96, hc96]; exact Nat.sub_le_sub_right hroom96 _)
         clear hr96 hC96 hroom96 hi096 hsz96 hc96
         have KY96 := Aside0.mk hy96
         have KA96 := Aside0.mk hA96
         clear hy96 hA96
         have KL96 := Aside0.mk (show (x15_4 : Int).toNat ≤ x13_3.length from by omega)
         replace q96 := eq_true q96
         try go_wp2_with (first | ((with_reducible refine gate_builtin (b := .append) (xs := #[.tmp 138, .tmp 141]) rfl ?_); at_builtin; refine Kd.R_append_rows k57 (w0 := w) w.heap.size rfl (.tmp 138) (.tmp 141) 26 57 (.agg #[(.int .i64 0), (.int .i64 0)]) 16 rfl Tryd.underlying26 info57 rfl (by decide) (by omega) v453 y452 y455 _ _ _ (fun k_ => some k_ ≠ (.slice (some ad441) x13_3.length co90 : Value).ownBlock) (fun _ => False) rfl rfl ?aO ?aR (fun _ _ h => h) (fun _ h => h.elim) ?aF ?aB ?aS ?aL ?_; (case aR => repeat (first | exact (by repeat (first | (with_reducible exact HR458.out) | (with_reducible refine Kd.C_alloc ?_ _) | (with_reducible refine Kd.C_drewN ?_ _) | (with_reducible refine Kd.C_drew ?_) | exact HR458.out)) | (with_reducible refine Kd.C_alloc ?_ _) | (with_reducible refine Kd.C_drewN ?_ _) | (with_reducible refine Kd.C_drew ?_))); (case aB => exact aq0); (case aF => exact (fun k_ hk => Kd.fresh' (Kd.R_lt aq35) k_ hk)); (case aO => exact (by (with_reducible repeat (first | apply Kd.R_alloc | apply Kd.R_drewN | apply Kd.R_drew)); exact HO454.out)); (case aS => exact (below_size aq0)); (case aL => have := LMc88.out; omega); intro v460 w97 ho hb hg hat; rw [← Ny459.out] at ho; have n0_ := Aside0.mk (Kd.R_over' aq10 (Kd.R_typed (by (with_reducible repeat (first | apply Kd.R_alloc | apply Kd.R_drewN | apply Kd.R_drew)); exact HO454.out)) (by decide) hg); have n1_ := Aside0.mk (Kd.R_over' aq14 (Kd.R_typed (by (with_reducible repeat (first | apply Kd.R_alloc | apply Kd.R_drewN | apply Kd.R_drew)); exact HO454.out)) (by decide) hg); have n2_ := Aside0.mk (Kd.R_after (ok := (fun _ => True)) aq35 hg hat); have n3_ := Aside0.mk (hb); have n4_ := Aside0.mk ((show Kd.C k57 w97 (some ad441) y443.length y443 from by rw [Ny443.out]; exact Kd.C_take (m := (x15_4 : Int).toNat) ((Kd.R_reads' (Kd.R_after (ok := (fun _ => True)) aq35 hg hat)).2.2) KL91.out)); have n5_ := Aside0.mk ((show Kd.C k57 w97 A96 y455.length y455 from by rw [Ny455.out, KA96.out]; exact Kd.C_drop (m := (x15_4 : Int).toNat) (c := co90) ((Kd.R_reads' (Kd.R_after (ok := (fun _ => True)) aq35 hg hat)).2.2) KL96.out ((Kd.R_reads' (Kd.R_after (ok := (fun _ => True)) aq35 hg hat)).2.1))); have n6_ := Aside0.mk (ho); clear HO_5; clear HO_6; clear HO_13; clear HB; clear HR446; clear HR458; clear HO454; have HO_5 := n0_; have HO_6 := n1_; have HO_13 := n2_; have HB := n3_; have HR446 := n4_; have HR458 := n5_; have HO461 := n6_; clear n0_ n1_ n2_ n3_ n4_ n5_ n6_; clear ho hb hg hat))
         go_roundg k4
         case measure => have := HK1.out; have := HK2.out; have := HK3.out; have := HK4.out; omega
         case rel => exact ⟨(y459), (wrap64 (x14_3 + 1)), aq7, H', ⟨aq71⟩, ⟨aq10⟩, ⟨aq14⟩, ⟨by (with_reducible repeat (first | apply Kd.R_alloc | apply Kd.R_drewN | apply Kd.R_drew)); exact Kd.R_mono HO461.out (fun _ hk => trivial)⟩, ⟨aq0⟩⟩
end Go.Proofs.YtpbhfpbfmpocdaaDoor.PSpillNone
