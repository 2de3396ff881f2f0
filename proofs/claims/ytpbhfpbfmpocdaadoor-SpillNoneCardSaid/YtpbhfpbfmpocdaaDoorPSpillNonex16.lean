-- Written by print2.py over the kit's printer. Not trusted: Lean checks it.
import Derived.Test.YtpbhfpbfmpocdaaDoorPSpillNonehqq
import Derived.Test.YtpbhfpbfmpocdaaDoorPSpillNonehmid
import Derived.Test.YtpbhfpbfmpocdaaDoorPSpillNonex0
import Derived.Test.YtpbhfpbfmpocdaaDoorPSpillNonex4
import Derived.Test.YtpbhfpbfmpocdaaDoorPSpillNonex5
import Derived.Test.YtpbhfpbfmpocdaaDoorPSpillNonex14
import Derived.Test.YtpbhfpbfmpocdaaDoorPSpillNonex15
import Derived.Test.YtpbhfpbfmpocdaaDoorPSpillNonehspillcode
namespace Go.Proofs.YtpbhfpbfmpocdaaDoor.PSpillNone
open Go.RowKit Go.Proofs.YtpbhfpbfmpocdaaDoorW.PrintWords Go.Proofs.YtpbhfpbfmpocdaaDoorW.PrintLast Go.Proofs.YtpbhfpbfmpocdaaDoorW.PrintMore
attribute [local go_sem] max2_int min2_int max_two min_two max_three min_three max_four min_four   -- for this text's walks alone
set_option linter.unusedVariables false
set_option linter.unusedSimpArgs false

/-! ### palinglaw22_SpillNone: function 5 -/
mutual
def palinglaw22_SpillNone.j0 : Nat → List (S48) → Int → List Int → Bool → Option (Bool)
  | 0, _, _, _, _ => none
  | k + 1, x0, x1, x2, x32 => if x32 = true then (some true) else (palinglaw22_SpillNone.l0 k x0 x1 x2 0)
def palinglaw22_SpillNone.l0 : Nat → List (S48) → Int → List Int → Int → Option (Bool)
  | 0, _, _, _, _ => none
  | k + 1, x0, x1, x2, x8 => if x8 < (x0.length : Int) then (if 0 ≤ x8 then (if ((rd_T48 x0 x8).f5) ≥ 40000 then (some true) else (palinglaw22_SpillNone.l0 k x0 x1 x2 (wrap64 (x8 + 1)))) else (none)) else ((palingref21_Scan.f k x0 (wrap64 ((wrap64 (Int.tmod x1 13)) + 1))).bind fun t494 => ((palinglaw22_places.f k t494).bind fun t497 => ((spill_Code.f k x0 t497 x2 40000 50000).bind fun t500 => ((palingref22_Slots.f k t494 x2).bind fun bt503 => (palinglaw22_SpillNone.l1 k x0 t500 bt503.1 bt503.2 0 0)))))
def palinglaw22_SpillNone.l1 : Nat → List (S48) → List (S48) → Int → Int → Int → Int → Option (Bool)
  | 0, _, _, _, _, _, _ => none
  | k + 1, x0, x10, x11, x12, x13, x14 => if x14 < (x10.length : Int) then (if 0 ≤ x14 then (if ((rd_T48 x10 x14).f0) = 4 then (if ((rd_T48 x10 x14).f3) = (-1) then (if ((rd_T48 x10 x14).f5) ≥ 40000 then (if ((rd_T48 x10 x14).f5) < (wrap64 (40000 + x11)) then (palinglaw22_SpillNone.j3 k x0 x10 x11 x12 x13 x14 true ((rd_T48 x10 x14).f0) ((rd_T48 x10 x14).f1) ((rd_T48 x10 x14).f2) ((rd_T48 x10 x14).f3) ((rd_T48 x10 x14).f4) ((rd_T48 x10 x14).f5) ((rd_T48 x10 x14).f6)) else (if ((rd_T48 x10 x14).f5) ≥ 50000 then (palinglaw22_SpillNone.j3 k x0 x10 x11 x12 x13 x14 (decide (((rd_T48 x10 x14).f5) < (wrap64 (50000 + x12)))) ((rd_T48 x10 x14).f0) ((rd_T48 x10 x14).f1) ((rd_T48 x10 x14).f2) ((rd_T48 x10 x14).f3) ((rd_T48 x10 x14).f4) ((rd_T48 x10 x14).f5) ((rd_T48 x10 x14).f6)) else (palinglaw22_SpillNone.j3 k x0 x10 x11 x12 x13 x14 false ((rd_T48 x10 x14).f0) ((rd_T48 x10 x14).f1) ((rd_T48 x10 x14).f2) ((rd_T48 x10 x14).f3) ((rd_T48 x10 x14).f4) ((rd_T48 x10 x14).f5) ((rd_T48 x10 x14).f6)))) else (if ((rd_T48 x10 x14).f5) ≥ 50000 then (palinglaw22_SpillNone.j3 k x0 x10 x11 x12 x13 x14 (decide (((rd_T48 x10 x14).f5) < (wrap64 (50000 + x12)))) ((rd_T48 x10 x14).f0) ((rd_T48 x10 x14).f1) ((rd_T48 x10 x14).f2) ((rd_T48 x10 x14).f3) ((rd_T48 x10 x14).f4) ((rd_T48 x10 x14).f5) ((rd_T48 x10 x14).f6)) else (palinglaw22_SpillNone.j3 k x0 x10 x11 x12 x13 x14 false ((rd_T48 x10 x14).f0) ((rd_T48 x10 x14).f1) ((rd_T48 x10 x14).f2) ((rd_T48 x10 x14).f3) ((rd_T48 x10 x14).f4) ((rd_T48 x10 x14).f5) ((rd_T48 x10 x14).f6)))) else (palinglaw22_SpillNone.j3 k x0 x10 x11 x12 x13 x14 false ((rd_T48 x10 x14).f0) ((rd_T48 x10 x14).f1) ((rd_T48 x10 x14).f2) ((rd_T48 x10 x14).f3) ((rd_T48 x10 x14).f4) ((rd_T48 x10 x14).f5) ((rd_T48 x10 x14).f6))) else (if ((rd_T48 x10 x14).f0) = 5 then (if ((rd_T48 x10 x14).f3) = (-1) then (if ((rd_T48 x10 x14).f5) ≥ 40000 then (if ((rd_T48 x10 x14).f5) < (wrap64 (40000 + x11)) then (palinglaw22_SpillNone.j3 k x0 x10 x11 x12 x13 x14 true ((rd_T48 x10 x14).f0) ((rd_T48 x10 x14).f1) ((rd_T48 x10 x14).f2) ((rd_T48 x10 x14).f3) ((rd_T48 x10 x14).f4) ((rd_T48 x10 x14).f5) ((rd_T48 x10 x14).f6)) else (if ((rd_T48 x10 x14).f5) ≥ 50000 then (palinglaw22_SpillNone.j3 k x0 x10 x11 x12 x13 x14 (decide (((rd_T48 x10 x14).f5) < (wrap64 (50000 + x12)))) ((rd_T48 x10 x14).f0) ((rd_T48 x10 x14).f1) ((rd_T48 x10 x14).f2) ((rd_T48 x10 x14).f3) ((rd_T48 x10 x14).f4) ((rd_T48 x10 x14).f5) ((rd_T48 x10 x14).f6)) else (palinglaw22_SpillNone.j3 k x0 x10 x11 x12 x13 x14 false ((rd_T48 x10 x14).f0) ((rd_T48 x10 x14).f1) ((rd_T48 x10 x14).f2) ((rd_T48 x10 x14).f3) ((rd_T48 x10 x14).f4) ((rd_T48 x10 x14).f5) ((rd_T48 x10 x14).f6)))) else (if ((rd_T48 x10 x14).f5) ≥ 50000 then (palinglaw22_SpillNone.j3 k x0 x10 x11 x12 x13 x14 (decide (((rd_T48 x10 x14).f5) < (wrap64 (50000 + x12)))) ((rd_T48 x10 x14).f0) ((rd_T48 x10 x14).f1) ((rd_T48 x10 x14).f2) ((rd_T48 x10 x14).f3) ((rd_T48 x10 x14).f4) ((rd_T48 x10 x14).f5) ((rd_T48 x10 x14).f6)) else (palinglaw22_SpillNone.j3 k x0 x10 x11 x12 x13 x14 false ((rd_T48 x10 x14).f0) ((rd_T48 x10 x14).f1) ((rd_T48 x10 x14).f2) ((rd_T48 x10 x14).f3) ((rd_T48 x10 x14).f4) ((rd_T48 x10 x14).f5) ((rd_T48 x10 x14).f6)))) else (palinglaw22_SpillNone.j3 k x0 x10 x11 x12 x13 x14 false ((rd_T48 x10 x14).f0) ((rd_T48 x10 x14).f1) ((rd_T48 x10 x14).f2) ((rd_T48 x10 x14).f3) ((rd_T48 x10 x14).f4) ((rd_T48 x10 x14).f5) ((rd_T48 x10 x14).f6))) else (palinglaw22_SpillNone.j3 k x0 x10 x11 x12 x13 x14 false ((rd_T48 x10 x14).f0) ((rd_T48 x10 x14).f1) ((rd_T48 x10 x14).f2) ((rd_T48 x10 x14).f3) ((rd_T48 x10 x14).f4) ((rd_T48 x10 x14).f5) ((rd_T48 x10 x14).f6)))) else (none)) else (if x13 = (x0.length : Int) then (if (wrap64 (x11 + x12)) > 0 then (some true) else (some ((x10.length : Int) == (x0.length : Int)))) else (none))
def palinglaw22_SpillNone.j3 : Nat → List (S48) → List (S48) → Int → Int → Int → Int → Bool → Int → Int → Int → Int → Int → Int → Int → Option (Bool)
  | 0, _, _, _, _, _, _, _, _, _, _, _, _, _, _ => none
  | k + 1, x0, x10, x11, x12, x13, x14, x16, x507000, x507001, x507002, x507003, x507004, x507005, x507006 => if x16 = true then (palinglaw22_SpillNone.l1 k x0 x10 x11 x12 x13 (wrap64 (x14 + 1))) else (if x13 ≥ (x0.length : Int) then (some false) else (if 0 ≤ x13 then (if x13 < (x0.length : Int) then (if x507000 = ((rd_T48 x0 x13).f0) then (if x507001 = ((rd_T48 x0 x13).f1) then (if x507005 = ((rd_T48 x0 x13).f5) then (palinglaw22_SpillNone.l1 k x0 x10 x11 x12 (wrap64 (x13 + 1)) (wrap64 (x14 + 1))) else (none)) else (none)) else (none)) else (none)) else (none)))
end
def palinglaw22_SpillNone.f (k : Nat) (l0 : List (S48)) (a1 : Int) (l2 : List Int) : Option (Bool) := (palinglaw22_awake.f k).bind fun t491 => (if t491 = true then (if (l0.length : Int) > 60 then (palinglaw22_SpillNone.j0 k l0 a1 l2 true) else (if (l2.length : Int) > 60 then (palinglaw22_SpillNone.j0 k l0 a1 l2 true) else ((palingref11_Check.f k l0 60 9).bind fun t492 => (palinglaw22_SpillNone.j0 k l0 a1 l2 (!t492))))) else (none))
theorem palinglaw22_SpillNone.mono_l : ∀ k, (∀ y0 y1 y2 y3, LeO (palinglaw22_SpillNone.j0 k y0 y1 y2 y3) (palinglaw22_SpillNone.j0 (k + 1) y0 y1 y2 y3)) ∧ (∀ y0 y1 y2 y3, LeO (palinglaw22_SpillNone.l0 k y0 y1 y2 y3) (palinglaw22_SpillNone.l0 (k + 1) y0 y1 y2 y3)) ∧ (∀ y0 y1 y2 y3 y4 y5, LeO (palinglaw22_SpillNone.l1 k y0 y1 y2 y3 y4 y5) (palinglaw22_SpillNone.l1 (k + 1) y0 y1 y2 y3 y4 y5)) ∧ (∀ y0 y1 y2 y3 y4 y5 y6 y7 y8 y9 y10 y11 y12 y13, LeO (palinglaw22_SpillNone.j3 k y0 y1 y2 y3 y4 y5 y6 y7 y8 y9 y10 y11 y12 y13) (palinglaw22_SpillNone.j3 (k + 1) y0 y1 y2 y3 y4 y5 y6 y7 y8 y9 y10 y11 y12 y13))
  | 0 => ⟨fun _ _ _ _ r h => by simp [palinglaw22_SpillNone.j0] at h, fun _ _ _ _ r h => by simp [palinglaw22_SpillNone.l0] at h, fun _ _ _ _ _ _ r h => by simp [palinglaw22_SpillNone.l1] at h, fun _ _ _ _ _ _ _ _ _ _ _ _ _ _ r h => by simp [palinglaw22_SpillNone.j3] at h⟩
  | k + 1 => by
    obtain ⟨ih0, ih1, ih2, ih3⟩ := palinglaw22_SpillNone.mono_l k
    refine ⟨?_, ?_, ?_, ?_⟩ <;> intros <;> (first | unfold palinglaw22_SpillNone.j0 | unfold palinglaw22_SpillNone.l0 | unfold palinglaw22_SpillNone.l1 | unfold palinglaw22_SpillNone.j3) <;> repeat' (first | (with_reducible first | exact ih0 _ _ _ _ | exact ih1 _ _ _ _ | exact ih2 _ _ _ _ _ _ | exact ih3 _ _ _ _ _ _ _ _ _ _ _ _ _ _ | exact palinglaw22_awake.mono _ | exact palinglaw22_places.mono _ _ | exact palingref11_Check.mono _ _ _ _ | exact palingref21_Scan.mono _ _ _ | exact palingref22_Slots.mono _ _ _ | exact spill_Code.mono _ _ _ _ _ _ | exact LeO.refl _ | exact LeO.none _ | refine LeO.ite ?_ ?_ | refine LeO.bind ?_ (fun _ => ?_)) | exact ih0 _ _ _ _ | exact ih1 _ _ _ _ | exact ih2 _ _ _ _ _ _ | exact ih3 _ _ _ _ _ _ _ _ _ _ _ _ _ _ | exact palinglaw22_awake.mono _ | exact palinglaw22_places.mono _ _ | exact palingref11_Check.mono _ _ _ _ | exact palingref21_Scan.mono _ _ _ | exact palingref22_Slots.mono _ _ _ | exact spill_Code.mono _ _ _ _ _ _ | exact LeO.none _ | refine LeO.ite ?_ ?_ | refine LeO.bind ?_ (fun _ => ?_))
theorem palinglaw22_SpillNone.mono : ∀ a0 a1 a2 k, LeO (palinglaw22_SpillNone.f k a0 a1 a2) (palinglaw22_SpillNone.f (k + 1) a0 a1 a2) := by
 intro a0 a1 a2 k
 obtain ⟨ih0, ih1, ih2, ih3⟩ := palinglaw22_SpillNone.mono_l k
 unfold palinglaw22_SpillNone.f
 repeat' (first | (with_reducible first | exact ih0 _ _ _ _ | exact ih1 _ _ _ _ | exact ih2 _ _ _ _ _ _ | exact ih3 _ _ _ _ _ _ _ _ _ _ _ _ _ _ | exact palinglaw22_awake.mono _ | exact palinglaw22_places.mono _ _ | exact palingref11_Check.mono _ _ _ _ | exact palingref21_Scan.mono _ _ _ | exact palingref22_Slots.mono _ _ _ | exact spill_Code.mono _ _ _ _ _ _ | exact LeO.refl _ | exact LeO.none _ | refine LeO.ite ?_ ?_ | refine LeO.bind ?_ (fun _ => ?_)) | exact ih0 _ _ _ _ | exact ih1 _ _ _ _ | exact ih2 _ _ _ _ _ _ | exact ih3 _ _ _ _ _ _ _ _ _ _ _ _ _ _ | exact palinglaw22_awake.mono _ | exact palinglaw22_places.mono _ _ | exact palingref11_Check.mono _ _ _ _ | exact palingref21_Scan.mono _ _ _ | exact palingref22_Slots.mono _ _ _ | exact spill_Code.mono _ _ _ _ _ _ | exact LeO.none _ | refine LeO.ite ?_ ?_ | refine LeO.bind ?_ (fun _ => ?_))
set_option maxHeartbeats 8000000 in
set_option maxRecDepth 100000 in
theorem palinglaw22_SpillNone.calls (k : Nat) (A0 : Option Addr) (c0 : Nat) (l0 : List (S48)) (a1 : Int) (A2 : Option Addr) (c2 : Nat) (l2 : List Int) (r : Bool) (w : World) (hr0 : Kd.C k48 w A0 l0.length l0) (hc0 : l0.length ≤ c0) (hr2 : Kd.C (Kd.int .i64) w A2 l2.length l2) (hc2 : l2.length ≤ c2) (h : palinglaw22_SpillNone.f k l0 a1 l2 = some r) (hgl : GlobOK w) :
    Calls Tryd.prog 5 #[.slice A0 l0.length c0, .int .u8 a1, .slice A2 l2.length c2] w fun e w' => e = .returned (.bool r) ∧ Below w.heap.size w w' := by
 have hu31 := Tryd.underlying31
 have hu48 := Tryd.underlying48
 have HR0 := Aside0.mk hr0
 have HC0 := Aside0.mk hc0
 clear hr0 hc0
 have HR2 := Aside0.mk hr2
 have HC2 := Aside0.mk hc2
 clear hr2 hc2
 have HB := Aside0.mk (Below.refl w.heap.size w)
 have HGL := Aside0.mk hgl
 clear hgl
 have H : ((palinglaw22_awake.f k).bind fun t491 => (if t491 = true then (if (l0.length : Int) > 60 then (palinglaw22_SpillNone.j0 k l0 a1 l2 true) else (if (l2.length : Int) > 60 then (palinglaw22_SpillNone.j0 k l0 a1 l2 true) else ((palingref11_Check.f k l0 60 9).bind fun t492 => (palinglaw22_SpillNone.j0 k l0 a1 l2 (!t492))))) else (none))) = some r := h
 clear h
 obtain ⟨t491, A4, H⟩ := bS_ H
 by_cases c5 : t491 = true
 rotate_left
 ·replace c5 := Bool.eq_false_iff.mpr c5
  subst c5
  rw [if_neg nf_] at H
  exact absurd H (by simp)
 subst c5
 rw [if_pos rfl] at H
 have HC6 := Aside0.mk H
 clear H
 go_enter Tryd.func5, Tryd.ntmps5
 go_upto_region 4 with (first | (go_at_call 6; (with_reducible refine (palinglaw22_awake.calls k  true _ A4.out (GlobOK.step HGL.out aq0)).mono ?_); rintro e w7 ⟨rfl, hb⟩; replace HB := Aside0.mk (below_step aq0 hb); (try clear hb); (try clear hb2); (try clear hk); (try clear hi)))
 repeat (go_quiet (first | (go_at_call 6; (with_reducible refine (palinglaw22_awake.calls k  true _ A4.out (GlobOK.step HGL.out aq0)).mono ?_); rintro e w7 ⟨rfl, hb⟩; replace HB := Aside0.mk (below_step aq0 hb); (try clear hb); (try clear hb2); (try clear hk); (try clear hi))); go_upto_region 4 with (first | (go_at_call 6; (with_reducible refine (palinglaw22_awake.calls k  true _ A4.out (GlobOK.step HGL.out aq0)).mono ?_); rintro e w7 ⟨rfl, hb⟩; replace HB := Aside0.mk (below_step aq0 hb); (try clear hb); (try clear hb2); (try clear hk); (try clear hi))))
 (try simp only [Act.put, List.setIfInBounds_toArray, List.set_cons_zero, List.set_cons_succ])
 go_cut [32] (fun v32 wc => ∃ (kq : Nat) (x32_5 : Bool), v32 = .bool x32_5 ∧ Aside0 (palinglaw22_SpillNone.j0 kq l0 a1 l2 x32_5 = some r) ∧ Aside0 (kq ≤ k) ∧ Aside0 (Below w.heap.size w wc))
 case first =>
  have H := HC6.out
  clear HC6
  by_cases c8 : (l0.length : Int) > 60
  ·rw [if_pos c8] at H
   have c8b0 : decide (60 < (l0.length : Int)) = true := decide_eq_true c8
   have c8b1 : decide (60 < l0.length) = true := decide_eq_true (by omega)
   clear c8
   (first | rw [c8b0] | (simp only [i64_w, i32_w]; rw [c8b0]) | skip)
   have H' := Aside0.mk H
   clear H
   go_wp2
   repeat (go_quiet (fail); try go_wp2)
   go_meet
   case rel => exact ⟨_, (true), aq7, H', ⟨aq50⟩, ⟨aq0⟩⟩
  rw [if_neg c8] at H
  have c8b0 : decide (60 < (l0.length : Int)) = false := decide_eq_false c8
  have c8b1 : decide (60 < l0.length) = false := decide_eq_false (by omega)
  clear c8
  (first | rw [c8b0] | (simp only [i64_w, i32_w]; rw [c8b0]) | skip)
  by_cases c9 : (l2.length : Int) > 60
  ·rw [if_pos c9] at H
   have c9b0 : decide (60 < (l2.length : Int)) = true := decide_eq_true c9
   have c9b1 : decide (60 < l2.length) = true := decide_eq_true (by omega)
   clear c9
   have H' := Aside0.mk H
   clear H
   go_wp2
   repeat (go_quiet (fail); try go_wp2)
   go_meet
   case rel => exact ⟨_, (true), aq7, H', ⟨aq50⟩, ⟨aq0⟩⟩
  rw [if_neg c9] at H
  have c9b0 : decide (60 < (l2.length : Int)) = false := decide_eq_false c9
  have c9b1 : decide (60 < l2.length) = false := decide_eq_false (by omega)
  clear c9
  obtain ⟨t492, A10, H⟩ := bS_ H
  have H' := Aside0.mk H
  clear H
  go_wp2_with (first | (go_at_call 7; (with_reducible refine (palingref11_Check.calls k _ _ l0 60 9 t492 _ ?side1 ?side2 A10.out).mono ?_); (case side1 => repeat (first | exact (Kd.C_below HR0.out HB.out) | (with_reducible refine Kd.C_alloc ?_ _) | (with_reducible refine Kd.C_drewN ?_ _) | (with_reducible refine Kd.C_drew ?_))); (case side2 => exact HC0.out); rintro e w11 ⟨rfl, hb⟩; replace HB := Aside0.mk (below_step aq0 hb); (try clear hb); (try clear hb2); (try clear hk); (try clear hi)))
  repeat (go_quiet (first | (go_at_call 7; (with_reducible refine (palingref11_Check.calls k _ _ l0 60 9 t492 _ ?side1 ?side2 A10.out).mono ?_); (case side1 => repeat (first | exact (Kd.C_below HR0.out HB.out) | (with_reducible refine Kd.C_alloc ?_ _) | (with_reducible refine Kd.C_drewN ?_ _) | (with_reducible refine Kd.C_drew ?_))); (case side2 => exact HC0.out); rintro e w11 ⟨rfl, hb⟩; replace HB := Aside0.mk (below_step aq0 hb); (try clear hb); (try clear hb2); (try clear hk); (try clear hi))); try go_wp2_with (first | (go_at_call 7; (with_reducible refine (palingref11_Check.calls k _ _ l0 60 9 t492 _ ?side1 ?side2 A10.out).mono ?_); (case side1 => repeat (first | exact (Kd.C_below HR0.out HB.out) | (with_reducible refine Kd.C_alloc ?_ _) | (with_reducible refine Kd.C_drewN ?_ _) | (with_reducible refine Kd.C_drew ?_))); (case side2 => exact HC0.out); rintro e w11 ⟨rfl, hb⟩; replace HB := Aside0.mk (below_step aq0 hb); (try clear hb); (try clear hb2); (try clear hk); (try clear hi))))
  go_meet
  case rel => exact ⟨_, (!t492), aq7, H', ⟨aq50⟩, ⟨aq0⟩⟩
 case rest =>
  clear HC6
  obtain ⟨kq, x32_5, rfl, HA, HJ5, HB⟩ := hcut
  cases kq with
  | zero => exact absurd HA.out (by simp [palinglaw22_SpillNone.j0])
  | succ kj5 =>
   have H := HA.out
   clear HA
   simp only [palinglaw22_SpillNone.j0] at H
   by_cases c12 : x32_5 = true
   ·subst c12
    rw [if_pos rfl] at H
    obtain rfl := Option.some.inj H
    go_wp2
    repeat (go_quiet (fail); try go_wp2)
    go_ret
    exact ⟨aq13, aq0⟩
   replace c12 := Bool.eq_false_iff.mpr c12
   subst c12
   rw [if_neg nf_] at H
   have H' := Aside0.mk H
   clear H
   go_wp2
   repeat (go_quiet (fail); try go_wp2)
   go_loopg [8] kj5 (fun kq v8 w' => ∃ (x8_2 : Int), v8 = .int .i64 x8_2 ∧ Aside0 (palinglaw22_SpillNone.l0 kq l0 a1 l2 x8_2 = some r) ∧ Aside0 (kq ≤ kj5) ∧ Aside0 (Below w.heap.size w w'))
   case atStart => exact ⟨(0), aq7, H', ⟨Nat.le_refl _⟩, ⟨aq0⟩⟩
   case round =>
    clear H'
    obtain ⟨x8_2, rfl, HA, HK2, HB⟩ := hrel
    cases gk with
    | zero => exact absurd HA.out (by simp [palinglaw22_SpillNone.l0])
    | succ k2 =>
     have H := HA.out
     clear HA
     simp only [palinglaw22_SpillNone.l0] at H
     by_cases c13 : x8_2 < (l0.length : Int)
     ·rw [if_pos c13] at H
      have c13b0 : decide (x8_2 < (l0.length : Int)) = true := decide_eq_true c13
      clear c13
      by_cases c14 : 0 ≤ x8_2
      rotate_left
      ·rw [if_neg c14] at H
       exact absurd H (by simp)
      rw [if_pos c14] at H
      have c14b0 : decide (0 ≤ x8_2) = true := decide_eq_true c14
      clear c14
      by_cases c15 : ((rd_T48 l0 x8_2).f5) ≥ 40000
      ·rw [if_pos c15] at H
       have c15b0 : decide (40000 ≤ ((rd_T48 l0 x8_2).f5)) = true := decide_eq_true c15
       clear c15
       obtain rfl := Option.some.inj H
       have p493 : 0 ≤ (x8_2 : Int) := of_decide_eq_true aq2
       have q493 : x8_2 < (l0.length : Int) := of_decide_eq_true aq2
       obtain ⟨ad493, e493, hx493_0, hx493_1, hx493_2, hx493_3, hx493_4, hx493_5, hx493_6⟩ := at_T48 HR0.out x8_2 p493 q493
       cases e493
       replace hx493_0 := (HB.out.cell (World.block_lt_of_cell? w _ hx493_0)).trans hx493_0
       replace hx493_1 := (HB.out.cell (World.block_lt_of_cell? w _ hx493_1)).trans hx493_1
       replace hx493_2 := (HB.out.cell (World.block_lt_of_cell? w _ hx493_2)).trans hx493_2
       replace hx493_3 := (HB.out.cell (World.block_lt_of_cell? w _ hx493_3)).trans hx493_3
       replace hx493_4 := (HB.out.cell (World.block_lt_of_cell? w _ hx493_4)).trans hx493_4
       replace hx493_5 := (HB.out.cell (World.block_lt_of_cell? w _ hx493_5)).trans hx493_5
       replace hx493_6 := (HB.out.cell (World.block_lt_of_cell? w _ hx493_6)).trans hx493_6
       replace p493 := eq_true p493
       replace q493 := eq_true q493
       go_wp2
       repeat (go_quiet (fail); try go_wp2)
       go_ret
       exact ⟨aq13, aq0⟩
      rw [if_neg c15] at H
      have c15b0 : decide (40000 ≤ ((rd_T48 l0 x8_2).f5)) = false := decide_eq_false c15
      clear c15
      have H' := Aside0.mk H
      clear H
      have p493 : 0 ≤ (x8_2 : Int) := of_decide_eq_true aq2
      have q493 : x8_2 < (l0.length : Int) := of_decide_eq_true aq2
      obtain ⟨ad493, e493, hx493_0, hx493_1, hx493_2, hx493_3, hx493_4, hx493_5, hx493_6⟩ := at_T48 HR0.out x8_2 p493 q493
      cases e493
      replace hx493_0 := (HB.out.cell (World.block_lt_of_cell? w _ hx493_0)).trans hx493_0
      replace hx493_1 := (HB.out.cell (World.block_lt_of_cell? w _ hx493_1)).trans hx493_1
      replace hx493_2 := (HB.out.cell (World.block_lt_of_cell? w _ hx493_2)).trans hx493_2
      replace hx493_3 := (HB.out.cell (World.block_lt_of_cell? w _ hx493_3)).trans hx493_3
      replace hx493_4 := (HB.out.cell (World.block_lt_of_cell? w _ hx493_4)).trans hx493_4
      replace hx493_5 := (HB.out.cell (World.block_lt_of_cell? w _ hx493_5)).trans hx493_5
      replace hx493_6 := (HB.out.cell (World.block_lt_of_cell? w _ hx493_6)).trans hx493_6
      replace p493 := eq_true p493
      replace q493 := eq_true q493
      go_wp2
      repeat (go_quiet (fail); try go_wp2)
      go_roundg k2
      case measure => have := HJ5.out; have := HK2.out; omega
      case rel => exact ⟨(wrap64 (x8_2 + 1)), aq7, H', ⟨by have := HJ5.out; have := HK2.out; omega⟩, ⟨aq0⟩⟩
     rw [if_neg c13] at H
     have c13b0 : decide (x8_2 < (l0.length : Int)) = false := decide_eq_false c13
     clear c13
     obtain ⟨t494, A16, H⟩ := bS_ H
     obtain ⟨t497, A17, H⟩ := bS_ H
     obtain ⟨t500, A18, H⟩ := bS_ H
     replace H := Option.bind_eq_some_iff.mp H
     obtain ⟨⟨t503, t504⟩, A190, H⟩ := H
     replace H : (palinglaw22_SpillNone.l1 k2 l0 t500 t503 t504 0 0) = some r := H
     have A19 := Aside0.mk A190
     clear A190
     have H' := Aside0.mk H
     clear H
     go_wp2_with (first | (go_at_call 8; (with_reducible refine (palingref21_Scan.calls k2 _ _ l0 (wrap64 ((wrap64 (Int.tmod a1 13)) + 1)) t494 _ ?side1 ?side2 A16.out).mono ?_); (case side1 => repeat (first | exact (Kd.C_below HR0.out HB.out) | (with_reducible refine Kd.C_alloc ?_ _) | (with_reducible refine Kd.C_drewN ?_ _) | (with_reducible refine Kd.C_drew ?_))); (case side2 => exact HC0.out); rintro e w20 ⟨v495, rfl, ho0, hb⟩; have HO496 := Aside0.mk (Kd.R_lower ho0 (below_size aq0)); replace HB := Aside0.mk (below_step aq0 hb); (try clear hb); (try clear hb2); (try clear hk); (try clear hi); (try clear ho0); obtain ⟨Ao21, co21, eo21⟩ := Kd.R_slice HO496.out; subst eo21) | (go_at_call 9; (with_reducible refine (palinglaw22_places.calls k2 _ _ t494 t497 _ ?side1 ?side2 A17.out).mono ?_); (case side1 => repeat (first | exact (Kd.R_reads' HO496.out).2.2 | (with_reducible refine Kd.C_alloc ?_ _) | (with_reducible refine Kd.C_drewN ?_ _) | (with_reducible refine Kd.C_drew ?_))); (case side2 => exact (Kd.R_reads' HO496.out).2.1); rintro e w22 ⟨v498, rfl, ho0, hb⟩; replace HO496 := Aside0.mk (Kd.R_below aq43 hb); have HO499 := Aside0.mk (Kd.R_lower ho0 (below_size aq0)); replace HB := Aside0.mk (below_step aq0 hb); (try clear hb); (try clear hb2); (try clear hk); (try clear hi); (try clear ho0); obtain ⟨Ao23, co23, eo23⟩ := Kd.R_slice HO499.out; subst eo23) | (go_at_call 15; (with_reducible refine (spill_Code.calls k2 _ _ l0 _ _ t497 _ _ l2 40000 50000 t500 _ ?side1 ?side2 ?side3 ?side4 ?side5 ?side6 A18.out (GlobOK.step HGL.out aq0)).mono ?_); (case side1 => repeat (first | exact (Kd.C_below HR0.out HB.out) | (with_reducible refine Kd.C_alloc ?_ _) | (with_reducible refine Kd.C_drewN ?_ _) | (with_reducible refine Kd.C_drew ?_))); (case side2 => exact HC0.out); (case side3 => repeat (first | exact (Kd.R_reads' HO499.out).2.2 | (with_reducible refine Kd.C_alloc ?_ _) | (with_reducible refine Kd.C_drewN ?_ _) | (with_reducible refine Kd.C_drew ?_))); (case side4 => exact (Kd.R_reads' HO499.out).2.1); (case side5 => repeat (first | exact (Kd.C_below HR2.out HB.out) | (with_reducible refine Kd.C_alloc ?_ _) | (with_reducible refine Kd.C_drewN ?_ _) | (with_reducible refine Kd.C_drew ?_))); (case side6 => exact HC2.out); rintro e w24 ⟨v501, rfl, ho0, hb⟩; replace HO496 := Aside0.mk (Kd.R_below aq43 hb); replace HO499 := Aside0.mk (Kd.R_below aq68 hb); have HO502 := Aside0.mk (Kd.R_lower ho0 (below_size aq0)); replace HB := Aside0.mk (below_step aq0 hb); (try clear hb); (try clear hb2); (try clear hk); (try clear hi); (try clear ho0)) | (go_at_call 11; (with_reducible refine (palingref22_Slots.calls k2 _ _ t494 _ _ l2 t503 t504 _ ?side1 ?side2 ?side3 ?side4 A19.out).mono ?_); (case side1 => repeat (first | exact (Kd.R_reads' HO496.out).2.2 | (with_reducible refine Kd.C_alloc ?_ _) | (with_reducible refine Kd.C_drewN ?_ _) | (with_reducible refine Kd.C_drew ?_))); (case side2 => exact (Kd.R_reads' HO496.out).2.1); (case side3 => repeat (first | exact (Kd.C_below HR2.out HB.out) | (with_reducible refine Kd.C_alloc ?_ _) | (with_reducible refine Kd.C_drewN ?_ _) | (with_reducible refine Kd.C_drew ?_))); (case side4 => exact HC2.out); rintro e w' ⟨rfl, ⟨nd, rfl⟩⟩; (try first | exact ⟨rfl, _, World.drewN_drewN _ _ _⟩ | exact ⟨rfl, _, Eq.trans (World.drewN_drewN _ _ _) (congrArg (World.drewN _) (Nat.add_assoc _ _ _))⟩)))
     repeat (go_quiet (first | (go_at_call 8; (with_reducible refine (palingref21_Scan.calls k2 _ _ l0 (wrap64 ((wrap64 (Int.tmod a1 13)) + 1)) t494 _ ?side1 ?side2 A16.out).mono ?_); (case side1 => repeat (first | exact (Kd.C_below HR0.out HB.out) | (with_reducible refine Kd.C_alloc ?_ _) | (with_reducible refine Kd.C_drewN ?_ _) | (with_reducible refine Kd.C_drew ?_))); (case side2 => exact HC0.out); rintro e w20 ⟨v495, rfl, ho0, hb⟩; have HO496 := Aside0.mk (Kd.R_lower ho0 (below_size aq0)); replace HB := Aside0.mk (below_step aq0 hb); (try clear hb); (try clear hb2); (try clear hk); (try clear hi); (try clear ho0); obtain ⟨Ao21, co21, eo21⟩ := Kd.R_slice HO496.out; subst eo21) | (go_at_call 9; (with_reducible refine (palinglaw22_places.calls k2 _ _ t494 t497 _ ?side1 ?side2 A17.out).mono ?_); (case side1 => repeat (first | exact (Kd.R_reads' HO496.out).2.2 | (with_reducible refine Kd.C_alloc ?_ _) | (with_reducible refine Kd.C_drewN ?_ _) | (with_reducible refine Kd.C_drew ?_))); (case side2 => exact (Kd.R_reads' HO496.out).2.1); rintro e w22 ⟨v498, rfl, ho0, hb⟩; replace HO496 := Aside0.mk (Kd.R_below aq43 hb); have HO499 := Aside0.mk (Kd.R_lower ho0 (below_size aq0)); replace HB := Aside0.mk (below_step aq0 hb); (try clear hb); (try clear hb2); (try clear hk); (try clear hi); (try clear ho0); obtain ⟨Ao23, co23, eo23⟩ := Kd.R_slice HO499.out; subst eo23) | (go_at_call 15; (with_reducible refine (spill_Code.calls k2 _ _ l0 _ _ t497 _ _ l2 40000 50000 t500 _ ?side1 ?side2 ?side3 ?side4 ?side5 ?side6 A18.out (GlobOK.step HGL.out aq0)).mono ?_); (case side1 => repeat (first | exact (Kd.C_below HR0.out HB.out) | (with_reducible refine Kd.C_alloc ?_ _) | (with_reducible refine Kd.C_drewN ?_ _) | (with_reducible refine Kd.C_drew ?_))); (case side2 => exact HC0.out); (case side3 => repeat (first | exact (Kd.R_reads' HO499.out).2.2 | (with_reducible refine Kd.C_alloc ?_ _) | (with_reducible refine Kd.C_drewN ?_ _) | (with_reducible refine Kd.C_drew ?_))); (case side4 => exact (Kd.R_reads' HO499.out).2.1); (case side5 => repeat (first | exact (Kd.C_below HR2.out HB.out) | (with_reducible refine Kd.C_alloc ?_ _) | (with_reducible refine Kd.C_drewN ?_ _) | (with_reducible refine Kd.C_drew ?_))); (case side6 => exact HC2.out); rintro e w24 ⟨v501, rfl, ho0, hb⟩; replace HO496 := Aside0.mk (Kd.R_below aq43 hb); replace HO499 := Aside0.mk (Kd.R_below aq68 hb); have HO502 := Aside0.mk (Kd.R_lower ho0 (below_size aq0)); replace HB := Aside0.mk (below_step aq0 hb); (try clear hb); (try clear hb2); (try clear hk); (try clear hi); (try clear ho0)) | (go_at_call 11; (with_reducible refine (palingref22_Slots.calls k2 _ _ t494 _ _ l2 t503 t504 _ ?side1 ?side2 ?side3 ?side4 A19.out).mono ?_); (case side1 => repeat (first | exact (Kd.R_reads' HO496.out).2.2 | (with_reducible refine Kd.C_alloc ?_ _) | (with_reducible refine Kd.C_drewN ?_ _) | (with_reducible refine Kd.C_drew ?_))); (case side2 => exact (Kd.R_reads' HO496.out).2.1); (case side3 => repeat (first | exact (Kd.C_below HR2.out HB.out) | (with_reducible refine Kd.C_alloc ?_ _) | (with_reducible refine Kd.C_drewN ?_ _) | (with_reducible refine Kd.C_drew ?_))); (case side4 => exact HC2.out); rintro e w' ⟨rfl, ⟨nd, rfl⟩⟩; (try first | exact ⟨rfl, _, World.drewN_drewN _ _ _⟩ | exact ⟨rfl, _, Eq.trans (World.drewN_drewN _ _ _) (congrArg (World.drewN _) (Nat.add_assoc _ _ _))⟩))); try go_wp2_with (first | (go_at_call 8; (with_reducible refine (palingref21_Scan.calls k2 _ _ l0 (wrap64 ((wrap64 (Int.tmod a1 13)) + 1)) t494 _ ?side1 ?side2 A16.out).mono ?_); (case side1 => repeat (first | exact (Kd.C_below HR0.out HB.out) | (with_reducible refine Kd.C_alloc ?_ _) | (with_reducible refine Kd.C_drewN ?_ _) | (with_reducible refine Kd.C_drew ?_))); (case side2 => exact HC0.out); rintro e w20 ⟨v495, rfl, ho0, hb⟩; have HO496 := Aside0.mk (Kd.R_lower ho0 (below_size aq0)); replace HB := Aside0.mk (below_step aq0 hb); (try clear hb); (try clear hb2); (try clear hk); (try clear hi); (try clear ho0); obtain ⟨Ao21, co21, eo21⟩ := Kd.R_slice HO496.out; subst eo21) | (go_at_call 9; (with_reducible refine (palinglaw22_places.calls k2 _ _ t494 t497 _ ?side1 ?side2 A17.out).mono ?_); (case side1 => repeat (first | exact (Kd.R_reads' HO496.out).2.2 | (with_reducible refine Kd.C_alloc ?_ _) | (with_reducible refine Kd.C_drewN ?_ _) | (with_reducible refine Kd.C_drew ?_))); (case side2 => exact (Kd.R_reads' HO496.out).2.1); rintro e w22 ⟨v498, rfl, ho0, hb⟩; replace HO496 := Aside0.mk (Kd.R_below aq43 hb); have HO499 := Aside0.mk (Kd.R_lower ho0 (below_size aq0)); replace HB := Aside0.mk (below_step aq0 hb); (try clear hb); (try clear hb2); (try clear hk); (try clear hi); (try clear ho0); obtain ⟨Ao23, co23, eo23⟩ := Kd.R_slice HO499.out; subst eo23) | (go_at_call 15; (with_reducible refine (spill_Code.calls k2 _ _ l0 _ _ t497 _ _ l2 40000 50000 t500 _ ?side1 ?side2 ?side3 ?side4 ?side5 ?side6 A18.out (GlobOK.step HGL.out aq0)).mono ?_); (case side1 => repeat (first | exact (Kd.C_below HR0.out HB.out) | (with_reducible refine Kd.C_alloc ?_ _) | (with_reducible refine Kd.C_drewN ?_ _) | (with_reducible refine Kd.C_drew ?_))); (case side2 => exact HC0.out); (case side3 => repeat (first | exact (Kd.R_reads' HO499.out).2.2 | (with_reducible refine Kd.C_alloc ?_ _) | (with_reducible refine Kd.C_drewN ?_ _) | (with_reducible refine Kd.C_drew ?_))); (case side4 => exact (Kd.R_reads' HO499.out).2.1); (case side5 => repeat (first | exact (Kd.C_below HR2.out HB.out) | (with_reducible refine Kd.C_alloc ?_ _) | (with_reducible refine Kd.C_drewN ?_ _) | (with_reducible refine Kd.C_drew ?_))); (case side6 => exact HC2.out); rintro e w24 ⟨v501, rfl, ho0, hb⟩; replace HO496 := Aside0.mk (Kd.R_below aq43 hb); replace HO499 := Aside0.mk (Kd.R_below aq68 hb); have HO502 := Aside0.mk (Kd.R_lower ho0 (below_size aq0)); replace HB := Aside0.mk (below_step aq0 hb); (try clear hb); (try clear hb2); (try clear hk); (try clear hi); (try clear ho0)) | (go_at_call 11; (with_reducible refine (palingref22_Slots.calls k2 _ _ t494 _ _ l2 t503 t504 _ ?side1 ?side2 ?side3 ?side4 A19.out).mono ?_); (case side1 => repeat (first | exact (Kd.R_reads' HO496.out).2.2 | (with_reducible refine Kd.C_alloc ?_ _) | (with_reducible refine Kd.C_drewN ?_ _) | (with_reducible refine Kd.C_drew ?_))); (case side2 => exact (Kd.R_reads' HO496.out).2.1); (case side3 => repeat (first | exact (Kd.C_below HR2.out HB.out) | (with_reducible refine Kd.C_alloc ?_ _) | (with_reducible refine Kd.C_drewN ?_ _) | (with_reducible refine Kd.C_drew ?_))); (case side4 => exact HC2.out); rintro e w' ⟨rfl, ⟨nd, rfl⟩⟩; (try first | exact ⟨rfl, _, World.drewN_drewN _ _ _⟩ | exact ⟨rfl, _, Eq.trans (World.drewN_drewN _ _ _) (congrArg (World.drewN _) (Nat.add_assoc _ _ _))⟩))))
     go_loopg [13, 14] k2 (fun kq v13 v14 w' => ∃ (x13_3 : Int) (x14_3 : Int), v13 = .int .i64 x13_3 ∧ v14 = .int .i64 x14_3 ∧ Aside0 (palinglaw22_SpillNone.l1 kq l0 t500 t503 t504 x13_3 x14_3 = some r) ∧ Aside0 (kq ≤ k2) ∧ Aside0 (Kd.R k48 48 w' w.heap.size (fun _ => True) v501 t500) ∧ Aside0 (Below w.heap.size w w'))
     case atStart => exact ⟨(0), (0), aq7, aq7, H', ⟨Nat.le_refl _⟩, ⟨by (with_reducible repeat (first | apply Kd.R_alloc | apply Kd.R_drewN | apply Kd.R_drew)); exact HO502.out⟩, ⟨aq0⟩⟩
     case round =>
      clear H'
      obtain ⟨x13_3, x14_3, rfl, rfl, HA, HK3, HO_10, HB⟩ := hrel
      cases gk with
      | zero => exact absurd HA.out (by simp [palinglaw22_SpillNone.l1])
      | succ k3 =>
       have H := HA.out
       clear HA
       simp only [palinglaw22_SpillNone.l1] at H
       by_cases c25 : x14_3 < (t500.length : Int)
       rotate_left
       ·rw [if_neg c25] at H
        have c25b0 : decide (x14_3 < (t500.length : Int)) = false := decide_eq_false c25
        clear c25
        by_cases c67 : x13_3 = (l0.length : Int)
        rotate_left
        ·rw [if_neg c67] at H
         have c67b0 : (x13_3 == (l0.length : Int)) = false := beq_eq_false_iff_ne.mpr c67
         have c67b1 : (x13_3 != (l0.length : Int)) = true := bne_iff_ne.mpr c67
         exact absurd H (by simp)
        rw [if_pos c67] at H
        have c67b0 : (x13_3 == (l0.length : Int)) = true := beq_iff_eq.mpr c67
        have c67b1 : (x13_3 != (l0.length : Int)) = false := bne_eq_false_iff_eq.mpr c67
        clear c67
        by_cases c68 : (wrap64 (t503 + t504)) > 0
        ·rw [if_pos c68] at H
         have c68b0 : decide (0 < (wrap64 (t503 + t504))) = true := decide_eq_true c68
         clear c68
         obtain rfl := Option.some.inj H
         obtain ⟨Ao69, co69, eo69⟩ := Kd.R_slice HO_10.out
         subst eo69
         go_wp2
         repeat (go_quiet (fail); try go_wp2)
         go_ret
         exact ⟨aq13, aq0⟩
        rw [if_neg c68] at H
        have c68b0 : decide (0 < (wrap64 (t503 + t504))) = false := decide_eq_false c68
        clear c68
        obtain rfl := Option.some.inj H
        obtain ⟨Ao70, co70, eo70⟩ := Kd.R_slice HO_10.out
        subst eo70
        go_wp2
        repeat (go_quiet (fail); try go_wp2)
        go_ret
        exact ⟨aq13, aq0⟩
       rw [if_pos c25] at H
       have c25b0 : decide (x14_3 < (t500.length : Int)) = true := decide_eq_true c25
       clear c25
       by_cases c26 : 0 ≤ x14_3
       rotate_left
       ·rw [if_neg c26] at H
        exact absurd H (by simp)
       rw [if_pos c26] at H
       have c26b0 : decide (0 ≤ x14_3) = true := decide_eq_true c26
       clear c26
       have HC27 := Aside0.mk H
       clear H
       obtain ⟨Ao28, co28, eo28⟩ := Kd.R_slice HO_10.out
       subst eo28
       have p505 : 0 ≤ (x14_3 : Int) := of_decide_eq_true aq2
       have q505 : x14_3 < (t500.length : Int) := of_decide_eq_true aq2
       obtain ⟨ad505, e505, hx505_0, hx505_1, hx505_2, hx505_3, hx505_4, hx505_5, hx505_6⟩ := at_T48 (Kd.R_reads' HO_10.out).2.2 x14_3 p505 q505
       cases e505
       replace p505 := eq_true p505
       replace q505 := eq_true q505
       go_upto_region 19 with (first | ((with_reducible refine gate_dst (N := 15) rfl ?_); (try (refine gate_guard (by rfl) ?_; dsimp only)); refine box_event ?hg (N := 15) ?hd (cs := #[.int .i64 0, .int .i64 0, .int .i64 0, .int .i64 0, .int .i64 0, .int .i64 0, .int .i64 0]) (t := 48) ?hr ?_; (case hd => rfl); (case hg => rfl); (case hr => first | (go_simp; done) | (go_simp; rfl)); intro gb0 hg w29 hbox hb; replace HO_10 := Aside0.mk (Kd.R_below (Kd.R_elderB aq69 gb0 (Nat.le_of_eq hg.symm)) hb); have BK0 := Aside0.mk (hbox); have GW0 := Aside0.mk ((by rw [hg]; exact (below_size aq0) : w.heap.size ≤ gb0)); have GE0 := Aside0.mk ((by rw [hg]; exact (below_size aq0) : w.heap.size ≤ gb0)); replace HB := Aside0.mk (below_step aq0 hb); clear hb hbox hg; obtain ⟨hcz30_0, hcz30_1, hcz30_2, hcz30_3, hcz30_4, hcz30_5, hcz30_6, hfz30_0, hfz30_1, hfz30_2, hfz30_3, hfz30_4, hfz30_5, hfz30_6⟩ := czf7 BK0.out))
       repeat (go_quiet (first | ((with_reducible refine gate_dst (N := 15) rfl ?_); (try (refine gate_guard (by rfl) ?_; dsimp only)); refine box_event ?hg (N := 15) ?hd (cs := #[.int .i64 0, .int .i64 0, .int .i64 0, .int .i64 0, .int .i64 0, .int .i64 0, .int .i64 0]) (t := 48) ?hr ?_; (case hd => rfl); (case hg => rfl); (case hr => first | (go_simp; done) | (go_simp; rfl)); intro gb0 hg w29 hbox hb; replace HO_10 := Aside0.mk (Kd.R_below (Kd.R_elderB aq69 gb0 (Nat.le_of_eq hg.symm)) hb); have BK0 := Aside0.mk (hbox); have GW0 := Aside0.mk ((by rw [hg]; exact (below_size aq0) : w.heap.size ≤ gb0)); have GE0 := Aside0.mk ((by rw [hg]; exact (below_size aq0) : w.heap.size ≤ gb0)); replace HB := Aside0.mk (below_step aq0 hb); clear hb hbox hg; obtain ⟨hcz30_0, hcz30_1, hcz30_2, hcz30_3, hcz30_4, hcz30_5, hcz30_6, hfz30_0, hfz30_1, hfz30_2, hfz30_3, hfz30_4, hfz30_5, hfz30_6⟩ := czf7 BK0.out)); go_upto_region 19 with (first | ((with_reducible refine gate_dst (N := 15) rfl ?_); (try (refine gate_guard (by rfl) ?_; dsimp only)); refine box_event ?hg (N := 15) ?hd (cs := #[.int .i64 0, .int .i64 0, .int .i64 0, .int .i64 0, .int .i64 0, .int .i64 0, .int .i64 0]) (t := 48) ?hr ?_; (case hd => rfl); (case hg => rfl); (case hr => first | (go_simp; done) | (go_simp; rfl)); intro gb0 hg w29 hbox hb; replace HO_10 := Aside0.mk (Kd.R_below (Kd.R_elderB aq69 gb0 (Nat.le_of_eq hg.symm)) hb); have BK0 := Aside0.mk (hbox); have GW0 := Aside0.mk ((by rw [hg]; exact (below_size aq0) : w.heap.size ≤ gb0)); have GE0 := Aside0.mk ((by rw [hg]; exact (below_size aq0) : w.heap.size ≤ gb0)); replace HB := Aside0.mk (below_step aq0 hb); clear hb hbox hg; obtain ⟨hcz30_0, hcz30_1, hcz30_2, hcz30_3, hcz30_4, hcz30_5, hcz30_6, hfz30_0, hfz30_1, hfz30_2, hfz30_3, hfz30_4, hfz30_5, hfz30_6⟩ := czf7 BK0.out)))
       (try simp only [Act.put, List.setIfInBounds_toArray, List.set_cons_zero, List.set_cons_succ])
       go_cut [16] (fun v16 wc => ∃ (kq : Nat) (x16_26 : Bool), v16 = .bool x16_26 ∧ Aside0 (palinglaw22_SpillNone.j3 kq l0 t500 t503 t504 x13_3 x14_3 x16_26 ((rd_T48 t500 x14_3).f0) ((rd_T48 t500 x14_3).f1) ((rd_T48 t500 x14_3).f2) ((rd_T48 t500 x14_3).f3) ((rd_T48 t500 x14_3).f4) ((rd_T48 t500 x14_3).f5) ((rd_T48 t500 x14_3).f6) = some r) ∧ Aside0 (kq ≤ k3) ∧ Aside0 (Kd.R k48 48 wc w.heap.size (fun k_ => k_ ≠ gb0) (.slice (some ad505) t500.length co28) t500) ∧ Aside0 (wc.heap[gb0]? = some (.cells #[.int .i64 ((rd_T48 t500 x14_3).f0), .int .i64 ((rd_T48 t500 x14_3).f1), .int .i64 ((rd_T48 t500 x14_3).f2), .int .i64 ((rd_T48 t500 x14_3).f3), .int .i64 ((rd_T48 t500 x14_3).f4), .int .i64 ((rd_T48 t500 x14_3).f5), .int .i64 ((rd_T48 t500 x14_3).f6)] 48 (0, 0))) ∧ Aside0 (Below w.heap.size w wc))
       case first =>
        have H := HC27.out
        clear HC27
        by_cases c31 : ((rd_T48 t500 x14_3).f0) = 4
        ·rw [if_pos c31] at H
         have c31b0 : (((rd_T48 t500 x14_3).f0) == 4) = true := beq_iff_eq.mpr c31
         have c31b1 : (((rd_T48 t500 x14_3).f0) != 4) = false := bne_eq_false_iff_eq.mpr c31
         clear c31
         (first | rw [c31b0] | (simp only [i64_w, i32_w]; rw [c31b0]) | skip)
         by_cases c32 : ((rd_T48 t500 x14_3).f3) = (-1)
         rotate_left
         ·rw [if_neg c32] at H
          have c32b0 : (((rd_T48 t500 x14_3).f3) == (-1)) = false := beq_eq_false_iff_ne.mpr c32
          have c32b1 : (((rd_T48 t500 x14_3).f3) != (-1)) = true := bne_iff_ne.mpr c32
          have H' := Aside0.mk H
          clear H
          obtain ⟨hcz42_0, hcz42_1, hcz42_2, hcz42_3, hcz42_4, hcz42_5, hcz42_6, hfz42_0, hfz42_1, hfz42_2, hfz42_3, hfz42_4, hfz42_5, hfz42_6⟩ := czf7 BK0.out
          go_wp2
          repeat (go_quiet (fail); try go_wp2)
          go_meet
          case rel => exact ⟨_, (false), aq7, H', ⟨aq25⟩, ⟨aq5⟩, ⟨aq1⟩, ⟨aq4⟩⟩
         rw [if_pos c32] at H
         have c32b0 : (((rd_T48 t500 x14_3).f3) == (-1)) = true := beq_iff_eq.mpr c32
         have c32b1 : (((rd_T48 t500 x14_3).f3) != (-1)) = false := bne_eq_false_iff_eq.mpr c32
         clear c32
         by_cases c33 : ((rd_T48 t500 x14_3).f5) ≥ 40000
         rotate_left
         ·rw [if_neg c33] at H
          have c33b0 : decide (40000 ≤ ((rd_T48 t500 x14_3).f5)) = false := decide_eq_false c33
          clear c33
          by_cases c39 : ((rd_T48 t500 x14_3).f5) ≥ 50000
          rotate_left
          ·rw [if_neg c39] at H
           have c39b0 : decide (50000 ≤ ((rd_T48 t500 x14_3).f5)) = false := decide_eq_false c39
           clear c39
           have H' := Aside0.mk H
           clear H
           obtain ⟨hcz41_0, hcz41_1, hcz41_2, hcz41_3, hcz41_4, hcz41_5, hcz41_6, hfz41_0, hfz41_1, hfz41_2, hfz41_3, hfz41_4, hfz41_5, hfz41_6⟩ := czf7 BK0.out
           go_wp2
           repeat (go_quiet (fail); try go_wp2)
           go_meet
           case rel => exact ⟨_, (false), aq7, H', ⟨aq25⟩, ⟨aq5⟩, ⟨aq1⟩, ⟨aq4⟩⟩
          rw [if_pos c39] at H
          have c39b0 : decide (50000 ≤ ((rd_T48 t500 x14_3).f5)) = true := decide_eq_true c39
          clear c39
          have H' := Aside0.mk H
          clear H
          obtain ⟨hcz40_0, hcz40_1, hcz40_2, hcz40_3, hcz40_4, hcz40_5, hcz40_6, hfz40_0, hfz40_1, hfz40_2, hfz40_3, hfz40_4, hfz40_5, hfz40_6⟩ := czf7 BK0.out
          go_wp2
          repeat (go_quiet (fail); try go_wp2)
          go_meet
          case rel => exact ⟨_, (decide (((rd_T48 t500 x14_3).f5) < (wrap64 (50000 + t504)))), aq7, H', ⟨aq25⟩, ⟨aq5⟩, ⟨aq1⟩, ⟨aq4⟩⟩
         rw [if_pos c33] at H
         have c33b0 : decide (40000 ≤ ((rd_T48 t500 x14_3).f5)) = true := decide_eq_true c33
         clear c33
         by_cases c34 : ((rd_T48 t500 x14_3).f5) < (wrap64 (40000 + t503))
         ·rw [if_pos c34] at H
          have c34b0 : decide (((rd_T48 t500 x14_3).f5) < (wrap64 (40000 + t503))) = true := decide_eq_true c34
          clear c34
          have H' := Aside0.mk H
          clear H
          obtain ⟨hcz35_0, hcz35_1, hcz35_2, hcz35_3, hcz35_4, hcz35_5, hcz35_6, hfz35_0, hfz35_1, hfz35_2, hfz35_3, hfz35_4, hfz35_5, hfz35_6⟩ := czf7 BK0.out
          go_wp2
          repeat (go_quiet (fail); try go_wp2)
          go_meet
          case rel => exact ⟨_, (true), aq7, H', ⟨aq25⟩, ⟨aq5⟩, ⟨aq1⟩, ⟨aq4⟩⟩
         rw [if_neg c34] at H
         have c34b0 : decide (((rd_T48 t500 x14_3).f5) < (wrap64 (40000 + t503))) = false := decide_eq_false c34
         clear c34
         by_cases c36 : ((rd_T48 t500 x14_3).f5) ≥ 50000
         rotate_left
         ·rw [if_neg c36] at H
          have c36b0 : decide (50000 ≤ ((rd_T48 t500 x14_3).f5)) = false := decide_eq_false c36
          clear c36
          have H' := Aside0.mk H
          clear H
          obtain ⟨hcz38_0, hcz38_1, hcz38_2, hcz38_3, hcz38_4, hcz38_5, hcz38_6, hfz38_0, hfz38_1, hfz38_2, hfz38_3, hfz38_4, hfz38_5, hfz38_6⟩ := czf7 BK0.out
          go_wp2
          repeat (go_quiet (fail); try go_wp2)
          go_meet
          case rel => exact ⟨_, (false), aq7, H', ⟨aq25⟩, ⟨aq5⟩, ⟨aq1⟩, ⟨aq4⟩⟩
         rw [if_pos c36] at H
         have c36b0 : decide (50000 ≤ ((rd_T48 t500 x14_3).f5)) = true := decide_eq_true c36
         clear c36
         have H' := Aside0.mk H
         clear H
         obtain ⟨hcz37_0, hcz37_1, hcz37_2, hcz37_3, hcz37_4, hcz37_5, hcz37_6, hfz37_0, hfz37_1, hfz37_2, hfz37_3, hfz37_4, hfz37_5, hfz37_6⟩ := czf7 BK0.out
         go_wp2
         repeat (go_quiet (fail); try go_wp2)
         go_meet
         case rel => exact ⟨_, (decide (((rd_T48 t500 x14_3).f5) < (wrap64 (50000 + t504)))), aq7, H', ⟨aq25⟩, ⟨aq5⟩, ⟨aq1⟩, ⟨aq4⟩⟩
        rw [if_neg c31] at H
        have c31b0 : (((rd_T48 t500 x14_3).f0) == 4) = false := beq_eq_false_iff_ne.mpr c31
        have c31b1 : (((rd_T48 t500 x14_3).f0) != 4) = true := bne_iff_ne.mpr c31
        (first | rw [c31b0] | (simp only [i64_w, i32_w]; rw [c31b0]) | skip)
        by_cases c43 : ((rd_T48 t500 x14_3).f0) = 5
        rotate_left
        ·rw [if_neg c43] at H
         have c43b0 : (((rd_T48 t500 x14_3).f0) == 5) = false := beq_eq_false_iff_ne.mpr c43
         have c43b1 : (((rd_T48 t500 x14_3).f0) != 5) = true := bne_iff_ne.mpr c43
         have H' := Aside0.mk H
         clear H
         obtain ⟨hcz55_0, hcz55_1, hcz55_2, hcz55_3, hcz55_4, hcz55_5, hcz55_6, hfz55_0, hfz55_1, hfz55_2, hfz55_3, hfz55_4, hfz55_5, hfz55_6⟩ := czf7 BK0.out
         go_wp2
         repeat (go_quiet (fail); try go_wp2)
         go_meet
         case rel => exact ⟨_, (false), aq7, H', ⟨aq25⟩, ⟨aq5⟩, ⟨aq1⟩, ⟨aq4⟩⟩
        rw [if_pos c43] at H
        have c43b0 : (((rd_T48 t500 x14_3).f0) == 5) = true := beq_iff_eq.mpr c43
        have c43b1 : (((rd_T48 t500 x14_3).f0) != 5) = false := bne_eq_false_iff_eq.mpr c43
        clear c43
        by_cases c44 : ((rd_T48 t500 x14_3).f3) = (-1)
        rotate_left
        ·rw [if_neg c44] at H
         have c44b0 : (((rd_T48 t500 x14_3).f3) == (-1)) = false := beq_eq_false_iff_ne.mpr c44
         have c44b1 : (((rd_T48 t500 x14_3).f3) != (-1)) = true := bne_iff_ne.mpr c44
         have H' := Aside0.mk H
         clear H
         obtain ⟨hcz54_0, hcz54_1, hcz54_2, hcz54_3, hcz54_4, hcz54_5, hcz54_6, hfz54_0, hfz54_1, hfz54_2, hfz54_3, hfz54_4, hfz54_5, hfz54_6⟩ := czf7 BK0.out
         go_wp2
         repeat (go_quiet (fail); try go_wp2)
         go_meet
         case rel => exact ⟨_, (false), aq7, H', ⟨aq25⟩, ⟨aq5⟩, ⟨aq1⟩, ⟨aq4⟩⟩
        rw [if_pos c44] at H
        have c44b0 : (((rd_T48 t500 x14_3).f3) == (-1)) = true := beq_iff_eq.mpr c44
        have c44b1 : (((rd_T48 t500 x14_3).f3) != (-1)) = false := bne_eq_false_iff_eq.mpr c44
        clear c44
        by_cases c45 : ((rd_T48 t500 x14_3).f5) ≥ 40000
        rotate_left
        ·rw [if_neg c45] at H
         have c45b0 : decide (40000 ≤ ((rd_T48 t500 x14_3).f5)) = false := decide_eq_false c45
         clear c45
         by_cases c51 : ((rd_T48 t500 x14_3).f5) ≥ 50000
         rotate_left
         ·rw [if_neg c51] at H
          have c51b0 : decide (50000 ≤ ((rd_T48 t500 x14_3).f5)) = false := decide_eq_false c51
          clear c51
          have H' := Aside0.mk H
          clear H
          obtain ⟨hcz53_0, hcz53_1, hcz53_2, hcz53_3, hcz53_4, hcz53_5, hcz53_6, hfz53_0, hfz53_1, hfz53_2, hfz53_3, hfz53_4, hfz53_5, hfz53_6⟩ := czf7 BK0.out
          go_wp2
          repeat (go_quiet (fail); try go_wp2)
          go_meet
          case rel => exact ⟨_, (false), aq7, H', ⟨aq25⟩, ⟨aq5⟩, ⟨aq1⟩, ⟨aq4⟩⟩
         rw [if_pos c51] at H
         have c51b0 : decide (50000 ≤ ((rd_T48 t500 x14_3).f5)) = true := decide_eq_true c51
         clear c51
         have H' := Aside0.mk H
         clear H
         obtain ⟨hcz52_0, hcz52_1, hcz52_2, hcz52_3, hcz52_4, hcz52_5, hcz52_6, hfz52_0, hfz52_1, hfz52_2, hfz52_3, hfz52_4, hfz52_5, hfz52_6⟩ := czf7 BK0.out
         go_wp2
         repeat (go_quiet (fail); try go_wp2)
         go_meet
         case rel => exact ⟨_, (decide (((rd_T48 t500 x14_3).f5) < (wrap64 (50000 + t504)))), aq7, H', ⟨aq25⟩, ⟨aq5⟩, ⟨aq1⟩, ⟨aq4⟩⟩
        rw [if_pos c45] at H
        have c45b0 : decide (40000 ≤ ((rd_T48 t500 x14_3).f5)) = true := decide_eq_true c45
        clear c45
        by_cases c46 : ((rd_T48 t500 x14_3).f5) < (wrap64 (40000 + t503))
        ·rw [if_pos c46] at H
         have c46b0 : decide (((rd_T48 t500 x14_3).f5) < (wrap64 (40000 + t503))) = true := decide_eq_true c46
         clear c46
         have H' := Aside0.mk H
         clear H
         obtain ⟨hcz47_0, hcz47_1, hcz47_2, hcz47_3, hcz47_4, hcz47_5, hcz47_6, hfz47_0, hfz47_1, hfz47_2, hfz47_3, hfz47_4, hfz47_5, hfz47_6⟩ := czf7 BK0.out
         go_wp2
         repeat (go_quiet (fail); try go_wp2)
         go_meet
         case rel => exact ⟨_, (true), aq7, H', ⟨aq25⟩, ⟨aq5⟩, ⟨aq1⟩, ⟨aq4⟩⟩
        rw [if_neg c46] at H
        have c46b0 : decide (((rd_T48 t500 x14_3).f5) < (wrap64 (40000 + t503))) = false := decide_eq_false c46
        clear c46
        by_cases c48 : ((rd_T48 t500 x14_3).f5) ≥ 50000
        rotate_left
        ·rw [if_neg c48] at H
         have c48b0 : decide (50000 ≤ ((rd_T48 t500 x14_3).f5)) = false := decide_eq_false c48
         clear c48
         have H' := Aside0.mk H
         clear H
         obtain ⟨hcz50_0, hcz50_1, hcz50_2, hcz50_3, hcz50_4, hcz50_5, hcz50_6, hfz50_0, hfz50_1, hfz50_2, hfz50_3, hfz50_4, hfz50_5, hfz50_6⟩ := czf7 BK0.out
         go_wp2
         repeat (go_quiet (fail); try go_wp2)
         go_meet
         case rel => exact ⟨_, (false), aq7, H', ⟨aq25⟩, ⟨aq5⟩, ⟨aq1⟩, ⟨aq4⟩⟩
        rw [if_pos c48] at H
        have c48b0 : decide (50000 ≤ ((rd_T48 t500 x14_3).f5)) = true := decide_eq_true c48
        clear c48
        have H' := Aside0.mk H
        clear H
        obtain ⟨hcz49_0, hcz49_1, hcz49_2, hcz49_3, hcz49_4, hcz49_5, hcz49_6, hfz49_0, hfz49_1, hfz49_2, hfz49_3, hfz49_4, hfz49_5, hfz49_6⟩ := czf7 BK0.out
        go_wp2
        repeat (go_quiet (fail); try go_wp2)
        go_meet
        case rel => exact ⟨_, (decide (((rd_T48 t500 x14_3).f5) < (wrap64 (50000 + t504)))), aq7, H', ⟨aq25⟩, ⟨aq5⟩, ⟨aq1⟩, ⟨aq4⟩⟩
       case rest =>
        clear HC27
        obtain ⟨kq, x16_26, rfl, HA, HJ26, HO_10, BK0, HB⟩ := hcut
        cases kq with
        | zero => exact absurd HA.out (by simp [palinglaw22_SpillNone.j3])
        | succ kj26 =>
         have H := HA.out
         clear HA
         simp only [palinglaw22_SpillNone.j3] at H
         by_cases c56 : x16_26 = true
         ·subst c56
          rw [if_pos rfl] at H
          have H' := Aside0.mk H
          clear H
          go_wp2
          repeat (go_quiet (fail); try go_wp2)
          go_roundg kj26
          case measure => have := HJ5.out; have := HK2.out; have := HK3.out; have := HJ26.out; omega
          case rel => exact ⟨(x13_3), (wrap64 (x14_3 + 1)), aq7, aq7, H', ⟨by have := HJ5.out; have := HK2.out; have := HK3.out; have := HJ26.out; omega⟩, ⟨by (with_reducible repeat (first | apply Kd.R_alloc | apply Kd.R_drewN | apply Kd.R_drew)); exact Kd.R_mono HO_10.out (fun _ hk => trivial)⟩, ⟨aq4⟩⟩
         replace c56 := Bool.eq_false_iff.mpr c56
         subst c56
         rw [if_neg nf_] at H
         by_cases c57 : x13_3 ≥ (l0.length : Int)
         ·rw [if_pos c57] at H
          have c57b0 : decide ((l0.length : Int) ≤ x13_3) = true := decide_eq_true c57
          clear c57
          obtain rfl := Option.some.inj H
          go_wp2
          repeat (go_quiet (fail); try go_wp2)
          go_ret
          exact ⟨aq13, aq4⟩
         rw [if_neg c57] at H
         have c57b0 : decide ((l0.length : Int) ≤ x13_3) = false := decide_eq_false c57
         clear c57
         by_cases c58 : 0 ≤ x13_3
         rotate_left
         ·rw [if_neg c58] at H
          exact absurd H (by simp)
         rw [if_pos c58] at H
         have c58b0 : decide (0 ≤ x13_3) = true := decide_eq_true c58
         clear c58
         by_cases c59 : x13_3 < (l0.length : Int)
         rotate_left
         ·rw [if_neg c59] at H
          exact absurd H (by simp)
         rw [if_pos c59] at H
         have c59b0 : decide (x13_3 < (l0.length : Int)) = true := decide_eq_true c59
         clear c59
         by_cases c60 : ((rd_T48 t500 x14_3).f0) = ((rd_T48 l0 x13_3).f0)
         rotate_left
         ·rw [if_neg c60] at H
          have c60b0 : (((rd_T48 t500 x14_3).f0) == ((rd_T48 l0 x13_3).f0)) = false := beq_eq_false_iff_ne.mpr c60
          have c60b1 : (((rd_T48 t500 x14_3).f0) != ((rd_T48 l0 x13_3).f0)) = true := bne_iff_ne.mpr c60
          exact absurd H (by simp)
         rw [if_pos c60] at H
         have c60b0 : (((rd_T48 t500 x14_3).f0) == ((rd_T48 l0 x13_3).f0)) = true := beq_iff_eq.mpr c60
         have c60b1 : (((rd_T48 t500 x14_3).f0) != ((rd_T48 l0 x13_3).f0)) = false := bne_eq_false_iff_eq.mpr c60
         clear c60
         by_cases c61 : ((rd_T48 t500 x14_3).f1) = ((rd_T48 l0 x13_3).f1)
         rotate_left
         ·rw [if_neg c61] at H
          have c61b0 : (((rd_T48 t500 x14_3).f1) == ((rd_T48 l0 x13_3).f1)) = false := beq_eq_false_iff_ne.mpr c61
          have c61b1 : (((rd_T48 t500 x14_3).f1) != ((rd_T48 l0 x13_3).f1)) = true := bne_iff_ne.mpr c61
          exact absurd H (by simp)
         rw [if_pos c61] at H
         have c61b0 : (((rd_T48 t500 x14_3).f1) == ((rd_T48 l0 x13_3).f1)) = true := beq_iff_eq.mpr c61
         have c61b1 : (((rd_T48 t500 x14_3).f1) != ((rd_T48 l0 x13_3).f1)) = false := bne_eq_false_iff_eq.mpr c61
         clear c61
         by_cases c62 : ((rd_T48 t500 x14_3).f5) = ((rd_T48 l0 x13_3).f5)
         rotate_left
         ·rw [if_neg c62] at H
          have c62b0 : (((rd_T48 t500 x14_3).f5) == ((rd_T48 l0 x13_3).f5)) = false := beq_eq_false_iff_ne.mpr c62
          have c62b1 : (((rd_T48 t500 x14_3).f5) != ((rd_T48 l0 x13_3).f5)) = true := bne_iff_ne.mpr c62
          exact absurd H (by simp)
         rw [if_pos c62] at H
         have c62b0 : (((rd_T48 t500 x14_3).f5) == ((rd_T48 l0 x13_3).f5)) = true := beq_iff_eq.mpr c62
         have c62b1 : (((rd_T48 t500 x14_3).f5) != ((rd_T48 l0 x13_3).f5)) = false := bne_eq_false_iff_eq.mpr c62
         clear c62
         have H' := Aside0.mk H
         clear H
         obtain ⟨hcz63_0, hcz63_1, hcz63_2, hcz63_3, hcz63_4, hcz63_5, hcz63_6, hfz63_0, hfz63_1, hfz63_2, hfz63_3, hfz63_4, hfz63_5, hfz63_6⟩ := czf7 BK0.out
         have p507 : 0 ≤ (x13_3 : Int) := of_decide_eq_true aq2
         have q507 : x13_3 < (l0.length : Int) := of_decide_eq_true aq2
         obtain ⟨ad507, e507, hx507_0, hx507_1, hx507_2, hx507_3, hx507_4, hx507_5, hx507_6⟩ := at_T48 HR0.out x13_3 p507 q507
         cases e507
         replace hx507_0 := (HB.out.cell (World.block_lt_of_cell? w _ hx507_0)).trans hx507_0
         replace hx507_1 := (HB.out.cell (World.block_lt_of_cell? w _ hx507_1)).trans hx507_1
         replace hx507_2 := (HB.out.cell (World.block_lt_of_cell? w _ hx507_2)).trans hx507_2
         replace hx507_3 := (HB.out.cell (World.block_lt_of_cell? w _ hx507_3)).trans hx507_3
         replace hx507_4 := (HB.out.cell (World.block_lt_of_cell? w _ hx507_4)).trans hx507_4
         replace hx507_5 := (HB.out.cell (World.block_lt_of_cell? w _ hx507_5)).trans hx507_5
         replace hx507_6 := (HB.out.cell (World.block_lt_of_cell? w _ hx507_6)).trans hx507_6
         replace p507 := eq_true p507
         replace q507 := eq_true q507
         have p508 : 0 ≤ (x13_3 : Int) := of_decide_eq_true aq2
         have q508 : x13_3 < (l0.length : Int) := of_decide_eq_true aq2
         obtain ⟨ad508, e508, hx508_0, hx508_1, hx508_2, hx508_3, hx508_4, hx508_5, hx508_6⟩ := at_T48 HR0.out x13_3 p508 q508
         obtain rfl : ad507 = ad508 := (by injection e508)
         replace hx508_0 := (HB.out.cell (World.block_lt_of_cell? w _ hx508_0)).trans hx508_0
         replace hx508_1 := (HB.out.cell (World.block_lt_of_cell? w _ hx508_1)).trans hx508_1
         replace hx508_2 := (HB.out.cell (World.block_lt_of_cell? w _ hx508_2)).trans hx508_2
         replace hx508_3 := (HB.out.cell (World.block_lt_of_cell? w _ hx508_3)).trans hx508_3
         replace hx508_4 := (HB.out.cell (World.block_lt_of_cell? w _ hx508_4)).trans hx508_4
         replace hx508_5 := (HB.out.cell (World.block_lt_of_cell? w _ hx508_5)).trans hx508_5
         replace hx508_6 := (HB.out.cell (World.block_lt_of_cell? w _ hx508_6)).trans hx508_6
         replace p508 := eq_true p508
         replace q508 := eq_true q508
         have p509 : 0 ≤ (x13_3 : Int) := of_decide_eq_true aq2
         have q509 : x13_3 < (l0.length : Int) := of_decide_eq_true aq2
         obtain ⟨ad509, e509, hx509_0, hx509_1, hx509_2, hx509_3, hx509_4, hx509_5, hx509_6⟩ := at_T48 HR0.out x13_3 p509 q509
         obtain rfl : ad507 = ad509 := (by injection e509)
         replace hx509_0 := (HB.out.cell (World.block_lt_of_cell? w _ hx509_0)).trans hx509_0
         replace hx509_1 := (HB.out.cell (World.block_lt_of_cell? w _ hx509_1)).trans hx509_1
         replace hx509_2 := (HB.out.cell (World.block_lt_of_cell? w _ hx509_2)).trans hx509_2
         replace hx509_3 := (HB.out.cell (World.block_lt_of_cell? w _ hx509_3)).trans hx509_3
         replace hx509_4 := (HB.out.cell (World.block_lt_of_cell? w _ hx509_4)).trans hx509_4
         replace hx509_5 := (HB.out.cell (World.block_lt_of_cell? w _ hx509_5)).trans hx509_5
         replace hx509_6 := (HB.out.cell (World.block_lt_of_cell? w _ hx509_6)).trans hx509_6
         replace p509 := eq_true p509
         replace q509 := eq_true q509
         go_wp2
         repeat (go_quiet (fail); try go_wp2)
         go_roundg kj26
         case measure => have := HJ5.out; have := HK2.out; have := HK3.out; have := HJ26.out; omega
         case rel => exact ⟨(wrap64 (x13_3 + 1)), (wrap64 (x14_3 + 1)), aq7, aq7, H', ⟨by have := HJ5.out; have := HK2.out; have := HK3.out; have := HJ26.out; omega⟩, ⟨by (with_reducible repeat (first | apply Kd.R_alloc | apply Kd.R_drewN | apply Kd.R_drew)); exact Kd.R_mono HO_10.out (fun _ hk => trivial)⟩, ⟨aq4⟩⟩
end Go.Proofs.YtpbhfpbfmpocdaaDoor.PSpillNone
