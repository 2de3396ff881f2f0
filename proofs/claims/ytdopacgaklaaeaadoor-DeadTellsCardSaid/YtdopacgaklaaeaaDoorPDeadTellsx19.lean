-- Written by print2.py over the kit's printer. Not trusted: Lean checks it.
import Derived.Test.YtdopacgaklaaeaaDoorPDeadTellshqq
import Derived.Test.YtdopacgaklaaeaaDoorPDeadTellshsml
import Derived.Test.YtdopacgaklaaeaaDoorPDeadTellsx0
import Derived.Test.YtdopacgaklaaeaaDoorPDeadTellsx2
import Derived.Test.YtdopacgaklaaeaaDoorPDeadTellsx4
import Derived.Test.YtdopacgaklaaeaaDoorPDeadTellsx6
import Derived.Test.YtdopacgaklaaeaaDoorPDeadTellsx7
import Derived.Test.YtdopacgaklaaeaaDoorPDeadTellsx8
import Derived.Test.YtdopacgaklaaeaaDoorPDeadTellsx17
import Derived.Test.YtdopacgaklaaeaaDoorPDeadTellsx18
import Derived.Test.YtdopacgaklaaeaaDoorPDeadTellshdmv
import Derived.Test.YtdopacgaklaaeaaDoorPDeadTellshdneed
import Derived.Test.YtdopacgaklaaeaaDoorPDeadTellshdrneed
namespace Go.Proofs.YtdopacgaklaaeaaDoor.PDeadTells
open Go.RowKit Go.Proofs.YtdopacgaklaaeaaDoorW.PrintWords Go.Proofs.YtdopacgaklaaeaaDoorW.PrintLast Go.Proofs.YtdopacgaklaaeaaDoorW.PrintMore
attribute [local go_sem] max2_int min2_int max_two min_two max_three min_three max_four min_four   -- for this text's walks alone
set_option linter.unusedVariables false
set_option linter.unusedSimpArgs false

/-! ### palinglaw18_DeadTells: function 3 -/
mutual
def palinglaw18_DeadTells.j0 : Nat → List (S28) → List Int → Bool → Option (Bool)
  | 0, _, _, _ => none
  | k + 1, x0, x1, x19 => if x19 = true then (some true) else (if 0 ≤ (x0.length : Int) then (if ((x0.length : Int) : Int).toNat ≤ 281474976710656 then (palinglaw18_DeadTells.l0 k x0 x1 (List.replicate ((x0.length : Int) : Int).toNat false) 0) else (none)) else (none))
def palinglaw18_DeadTells.j2 : Nat → List (S28) → List Bool → Option (Bool)
  | 0, _, _ => none
  | k + 1, x0, x6 => (dead_Needless.f k x0).bind fun t414 => ((palingref18_Needless.f k x0).bind fun t417 => ((palingref14_Bools.f k t414 t417).bind fun t420 => (if t420 = true then ((dead_Code.f k x0).bind fun t421 => ((palingref18_Code.f k x0).bind fun t424 => ((palingref13_Same.f k t421 t424).bind fun t427 => (if t427 = true then ((dead_Insert.f k x0 8 0 0 0 0 0 0 x6).bind fun t428 => ((palingref18_Insert.f k x0 8 0 0 0 0 0 0 x6).bind fun t431 => ((palingref13_Same.f k t428 t431).bind fun t434 => (palinglaw18_DeadTells.j3 k x0 x6 (!t434))))) else (none))))) else (none))))
def palinglaw18_DeadTells.j3 : Nat → List (S28) → List Bool → Bool → Option (Bool)
  | 0, _, _, _ => none
  | k + 1, x0, x6, x70 => if x70 = true then (some false) else (if 0 ≤ (wrap64 ((x6.length : Int) - 1)) then (if (wrap64 ((x6.length : Int) - 1)) < (x6.length : Int) then ((some (x6.set ((wrap64 ((x6.length : Int) - 1)) : Int).toNat false : List Bool)).bind fun y435 => ((dead_Less.f k x0 y435).bind fun t436 => ((palingref18_Less.f k x0 y435).bind fun t439 => ((palingref13_Same.f k t436 t439).bind fun t442 => (some t442))))) else (none)) else (none))
def palinglaw18_DeadTells.l0 : Nat → List (S28) → List Int → List Bool → Int → Option (Bool)
  | 0, _, _, _, _ => none
  | k + 1, x0, x1, x6, x7 => if x7 < (x0.length : Int) then (if x7 < (x1.length : Int) then (if 0 ≤ x7 then (if x7 < (x6.length : Int) then (palinglaw18_DeadTells.l0 k x0 x1 (x6.set (x7 : Int).toNat ((Int.tmod (rd x1 x7) 2) == 1)) (wrap64 (x7 + 1))) else (none)) else (none)) else (palinglaw18_DeadTells.j2 k x0 x6)) else (palinglaw18_DeadTells.j2 k x0 x6)
end
def palinglaw18_DeadTells.f (k : Nat) (l0 : List (S28)) (l1 : List Int) : Option (Bool) := (palinglaw18_awake.f k).bind fun t406 => (if t406 = true then (if (l0.length : Int) > 30 then (palinglaw18_DeadTells.j0 k l0 l1 true) else ((palingref11_Check.f k l0 30 9).bind fun t407 => (palinglaw18_DeadTells.j0 k l0 l1 (!t407)))) else (none))
theorem palinglaw18_DeadTells.mono_l : ∀ k, (∀ y0 y1 y2, LeO (palinglaw18_DeadTells.j0 k y0 y1 y2) (palinglaw18_DeadTells.j0 (k + 1) y0 y1 y2)) ∧ (∀ y0 y1, LeO (palinglaw18_DeadTells.j2 k y0 y1) (palinglaw18_DeadTells.j2 (k + 1) y0 y1)) ∧ (∀ y0 y1 y2, LeO (palinglaw18_DeadTells.j3 k y0 y1 y2) (palinglaw18_DeadTells.j3 (k + 1) y0 y1 y2)) ∧ (∀ y0 y1 y2 y3, LeO (palinglaw18_DeadTells.l0 k y0 y1 y2 y3) (palinglaw18_DeadTells.l0 (k + 1) y0 y1 y2 y3))
  | 0 => ⟨fun _ _ _ r h => by simp [palinglaw18_DeadTells.j0] at h, fun _ _ r h => by simp [palinglaw18_DeadTells.j2] at h, fun _ _ _ r h => by simp [palinglaw18_DeadTells.j3] at h, fun _ _ _ _ r h => by simp [palinglaw18_DeadTells.l0] at h⟩
  | k + 1 => by
    obtain ⟨ih0, ih1, ih2, ih3⟩ := palinglaw18_DeadTells.mono_l k
    refine ⟨?_, ?_, ?_, ?_⟩ <;> intros <;> (first | unfold palinglaw18_DeadTells.j0 | unfold palinglaw18_DeadTells.j2 | unfold palinglaw18_DeadTells.j3 | unfold palinglaw18_DeadTells.l0) <;> repeat' (first | (with_reducible first | exact ih0 _ _ _ | exact ih1 _ _ | exact ih2 _ _ _ | exact ih3 _ _ _ _ | exact dead_Code.mono _ _ | exact dead_Insert.mono _ _ _ _ _ _ _ _ _ _ | exact dead_Less.mono _ _ _ | exact dead_Needless.mono _ _ | exact palinglaw18_awake.mono _ | exact palingref11_Check.mono _ _ _ _ | exact palingref13_Same.mono _ _ _ | exact palingref14_Bools.mono _ _ _ | exact palingref18_Code.mono _ _ | exact palingref18_Insert.mono _ _ _ _ _ _ _ _ _ _ | exact palingref18_Less.mono _ _ _ | exact palingref18_Needless.mono _ _ | exact LeO.refl _ | exact LeO.none _ | refine LeO.ite ?_ ?_ | refine LeO.bind ?_ (fun _ => ?_)) | exact ih0 _ _ _ | exact ih1 _ _ | exact ih2 _ _ _ | exact ih3 _ _ _ _ | exact dead_Code.mono _ _ | exact dead_Insert.mono _ _ _ _ _ _ _ _ _ _ | exact dead_Less.mono _ _ _ | exact dead_Needless.mono _ _ | exact palinglaw18_awake.mono _ | exact palingref11_Check.mono _ _ _ _ | exact palingref13_Same.mono _ _ _ | exact palingref14_Bools.mono _ _ _ | exact palingref18_Code.mono _ _ | exact palingref18_Insert.mono _ _ _ _ _ _ _ _ _ _ | exact palingref18_Less.mono _ _ _ | exact palingref18_Needless.mono _ _ | exact LeO.none _ | refine LeO.ite ?_ ?_ | refine LeO.bind ?_ (fun _ => ?_))
theorem palinglaw18_DeadTells.mono : ∀ a0 a1 k, LeO (palinglaw18_DeadTells.f k a0 a1) (palinglaw18_DeadTells.f (k + 1) a0 a1) := by
 intro a0 a1 k
 obtain ⟨ih0, ih1, ih2, ih3⟩ := palinglaw18_DeadTells.mono_l k
 unfold palinglaw18_DeadTells.f
 repeat' (first | (with_reducible first | exact ih0 _ _ _ | exact ih1 _ _ | exact ih2 _ _ _ | exact ih3 _ _ _ _ | exact dead_Code.mono _ _ | exact dead_Insert.mono _ _ _ _ _ _ _ _ _ _ | exact dead_Less.mono _ _ _ | exact dead_Needless.mono _ _ | exact palinglaw18_awake.mono _ | exact palingref11_Check.mono _ _ _ _ | exact palingref13_Same.mono _ _ _ | exact palingref14_Bools.mono _ _ _ | exact palingref18_Code.mono _ _ | exact palingref18_Insert.mono _ _ _ _ _ _ _ _ _ _ | exact palingref18_Less.mono _ _ _ | exact palingref18_Needless.mono _ _ | exact LeO.refl _ | exact LeO.none _ | refine LeO.ite ?_ ?_ | refine LeO.bind ?_ (fun _ => ?_)) | exact ih0 _ _ _ | exact ih1 _ _ | exact ih2 _ _ _ | exact ih3 _ _ _ _ | exact dead_Code.mono _ _ | exact dead_Insert.mono _ _ _ _ _ _ _ _ _ _ | exact dead_Less.mono _ _ _ | exact dead_Needless.mono _ _ | exact palinglaw18_awake.mono _ | exact palingref11_Check.mono _ _ _ _ | exact palingref13_Same.mono _ _ _ | exact palingref14_Bools.mono _ _ _ | exact palingref18_Code.mono _ _ | exact palingref18_Insert.mono _ _ _ _ _ _ _ _ _ _ | exact palingref18_Less.mono _ _ _ | exact palingref18_Needless.mono _ _ | exact LeO.none _ | refine LeO.ite ?_ ?_ | refine LeO.bind ?_ (fun _ => ?_))
def palinglaw18_DeadTells.T12 : Bool × List (List Nat × List Nat) := (true, [([], []), ([0], [0]), ([], []), ([2, 1], [2]), ([1, 3, 3], [1, 3]), ([4], [4]), ([5, 4], [5]), ([6], [6]), ([7, 6, 6], [6, 7]), ([6], [6]), ([9, 8, 6], [6, 9]), ([8, 10, 10, 6], [6, 8, 10]), ([11, 6], [6, 11]), ([6, 12], [6, 12]), ([13, 11], [13]), ([14], [14]), ([14], [14]), ([14], [14]), ([15, 16, 17, 14, 14], [14, 15, 16, 17]), ([14], [14]), ([14], [14]), ([14], [14]), ([19, 20, 21, 18, 14], [14, 19, 20, 21]), ([18, 22, 22, 14], [14, 18, 22]), ([23, 14], [14, 23]), ([14, 24], [14, 24])])
def palinglaw18_DeadTells.B12 : List Nat := [0, 1, 0, 7, 15, 31, 63, 127, 255, 127, 1023, 2047, 4095, 8191, 16383, 32767, 32767, 32767, 262143, 32767, 32767, 32767, 4194303, 8388607, 16777215, 33554431]
theorem palinglaw18_DeadTells.tab12 : rtab .any (opsOf Tryd.f3 12) = palinglaw18_DeadTells.T12 := by kernel_rfl
theorem palinglaw18_DeadTells.bits12 : waitsOk palinglaw18_DeadTells.T12.2 palinglaw18_DeadTells.B12 = true := by kernel_rfl
set_option maxHeartbeats 8000000 in
set_option maxRecDepth 100000 in
theorem palinglaw18_DeadTells.calls (k : Nat) (A0 : Option Addr) (c0 : Nat) (l0 : List (S28)) (A1 : Option Addr) (c1 : Nat) (l1 : List Int) (r : Bool) (w : World) (hr0 : Kd.C k28 w A0 l0.length l0) (hc0 : l0.length ≤ c0) (hr1 : Kd.C (Kd.int .u8) w A1 l1.length l1) (hc1 : l1.length ≤ c1) (h : palinglaw18_DeadTells.f k l0 l1 = some r) (hgl : GlobOK w) :
    Calls Tryd.prog 3 #[.slice A0 l0.length c0, .slice A1 l1.length c1] w fun e w' => e = .returned (.bool r) ∧ Below w.heap.size w w' := by
 have hu28 := Tryd.underlying28
 have HR0 := Aside0.mk hr0
 have HC0 := Aside0.mk hc0
 clear hr0 hc0
 have HR1 := Aside0.mk hr1
 have HC1 := Aside0.mk hc1
 clear hr1 hc1
 have HB := Aside0.mk (Below.refl w.heap.size w)
 have HGL := Aside0.mk hgl
 clear hgl
 have H : ((palinglaw18_awake.f k).bind fun t406 => (if t406 = true then (if (l0.length : Int) > 30 then (palinglaw18_DeadTells.j0 k l0 l1 true) else ((palingref11_Check.f k l0 30 9).bind fun t407 => (palinglaw18_DeadTells.j0 k l0 l1 (!t407)))) else (none))) = some r := h
 clear h
 obtain ⟨t406, A3, H⟩ := bS_ H
 by_cases c4 : t406 = true
 rotate_left
 ·replace c4 := Bool.eq_false_iff.mpr c4
  subst c4
  have H1 : (none) = some r := by rw [if_neg (show ¬ (false = true) by decide)] at H; exact H
  exact absurd H1 (by simp)
 subst c4
 rw [if_pos rfl] at H
 have HC5 := Aside0.mk H
 clear H
 go_enter Tryd.func3, Tryd.ntmps3
 go_upto_region 4 with (first | ((with_reducible refine gate_callee (f := 7) rfl ?_); refine goesL_ (some 9) rfl rfl Tryd.func7 (by kernel_rfl) rfl #[] rfl aq4 ?_; (with_reducible refine (palinglaw18_awake.calls k  true _ A3.out (GlobOK.step HGL.out aq0)).mono ?_); rintro e w6 ⟨rfl, hb⟩; refine ⟨_, rfl, ?_⟩; replace HB := Aside0.mk (below_step aq0 hb); (try clear hb); (try clear hb2); (try clear hk); (try clear hi)))
 (try simp only [Act.put, List.setIfInBounds_toArray, List.set_cons_zero, List.set_cons_succ])
 go_cut [19] (fun v19 wc => ∃ (kq : Nat) (x19_4 : Bool), v19 = .bool x19_4 ∧ Aside0 (palinglaw18_DeadTells.j0 kq l0 l1 x19_4 = some r) ∧ Aside0 (kq ≤ k) ∧ Aside0 (Below w.heap.size w wc))
 case first =>
  have H := HC5.out
  clear HC5
  by_cases c7 : (l0.length : Int) > 30
  ·rw [if_pos c7] at H
   have c7b0 : decide (30 < (l0.length : Int)) = true := decide_eq_true c7
   have c7b1 : decide (30 < l0.length) = true := decide_eq_true (by omega)
   clear c7
   (first | rw [c7b0] | (simp only [i64_w, i32_w]; rw [c7b0]) | skip)
   have H' := Aside0.mk H
   clear H
   go_wp2
   go_meet
   case rel => exact ⟨_, (true), aq5, H', ⟨aq41⟩, ⟨aq0⟩⟩
  rw [if_neg c7] at H
  have c7b0 : decide (30 < (l0.length : Int)) = false := decide_eq_false c7
  have c7b1 : decide (30 < l0.length) = false := decide_eq_false (by omega)
  clear c7
  (first | rw [c7b0] | (simp only [i64_w, i32_w]; rw [c7b0]) | skip)
  obtain ⟨t407, A8, H⟩ := bS_ H
  have H' := Aside0.mk H
  clear H
  go_wp2_with (first | (go_at_call 8; (with_reducible refine (palingref11_Check.calls k _ _ l0 30 9 t407 _ ?side1 ?side2 A8.out).mono ?_); (case side1 => repeat (first | exact (Kd.C_below HR0.out HB.out) | (with_reducible refine Kd.C_alloc ?_ _) | (with_reducible refine Kd.C_drewN ?_ _) | (with_reducible refine Kd.C_drew ?_))); (case side2 => exact HC0.out); rintro e w9 ⟨rfl, hb⟩; replace HB := Aside0.mk (below_step aq0 hb); (try clear hb); (try clear hb2); (try clear hk); (try clear hi)))
  go_meet
  case rel => exact ⟨_, (!t407), aq5, H', ⟨aq41⟩, ⟨aq0⟩⟩
 case rest =>
  clear HC5
  obtain ⟨kq, x19_4, rfl, HA, HJ4, HB⟩ := hcut
  cases kq with
  | zero => exact absurd HA.out (by simp [palinglaw18_DeadTells.j0])
  | succ kj4 =>
   have H := HA.out
   clear HA
   simp only [palinglaw18_DeadTells.j0] at H
   by_cases c10 : x19_4 = true
   ·subst c10
    rw [if_pos rfl] at H
    obtain rfl := Option.some.inj H
    go_wp2
    go_ret
    exact ⟨aq11, aq0⟩
   replace c10 := Bool.eq_false_iff.mpr c10
   subst c10
   rw [if_neg nf_] at H
   by_cases c11 : 0 ≤ (l0.length : Int)
   rotate_left
   ·rw [if_neg c11] at H
    exact absurd H (by simp)
   rw [if_pos c11] at H
   have c11b0 := eq_true c11
   have c11b1 : decide (0 ≤ (l0.length : Int)) = true := decide_eq_true c11
   clear c11
   by_cases c12 : ((l0.length : Int) : Int).toNat ≤ 281474976710656
   rotate_left
   ·rw [if_neg c12] at H
    exact absurd H (by simp)
   rw [if_pos c12] at H
   have c12b0 := eq_true c12
   have c12b1 : decide (((l0.length : Int) : Int).toNat ≤ 281474976710656) = true := decide_eq_true c12
   clear c12
   obtain ⟨y408, hy_⟩ : ∃ y_ : List Bool, y_ = (List.replicate ((l0.length : Int) : Int).toNat false) := ⟨_, rfl⟩
   replace H : (palinglaw18_DeadTells.l0 kj4 l0 l1 y408 0) = some r := aq1
   have Ny408 := Aside0.mk hy_
   clear hy_
   have HC13 := Aside0.mk H
   clear H
   go_upto_block 0 with (first | ((with_reducible refine gate_dst (N := 22) rfl ?_); (try (refine gate_guard (by rfl) ?_; dsimp only)); refine Kd.R_make Kd.bool _ 4 rfl (N := 22) rfl 26 _ _ rfl (l0.length : Int) rfl rfl Tryd.underlying26 (.bool false) 1 info4 rfl (by decide) (by omega) false (ok := fun _ => True) (okp := fun _ => True) rfl (fun _ hk => hk) trivial (of_decide_eq_true aq2) (Nat.le_trans (Nat.mul_le_mul_right _ (of_decide_eq_true aq2 : (l0.length : Int).toNat ≤ 281474976710656)) (by omega)) (Below.refl _ _) (Nat.le_refl _) ?_; intro v409 w14 ho15 hb hg_ hnew_; clear hg_ hnew_; (first | rw [← Ny408.out] at ho15 | (simp only [Int.reduceToNat] at ho15; rw [← Ny408.out] at ho15)); have HO410 := Aside0.mk (Kd.R_lower ho15 (below_size aq0)); replace HB := Aside0.mk (below_step aq0 hb); clear hb ho15))
   (try simp only [Act.put, List.setIfInBounds_toArray, List.set_cons_zero, List.set_cons_succ])
   go_cut [] (fun wc => ∃ (kq : Nat) (x6_12 : List Bool), Aside0 (palinglaw18_DeadTells.j2 kq l0 x6_12 = some r) ∧ Aside0 (kq ≤ kj4) ∧ Aside0 (Kd.R Kd.bool 4 wc w.heap.size (fun _ => True) v409 x6_12) ∧ Aside0 (Below w.heap.size w wc))
   case first =>
    have H := HC13.out
    clear HC13
    have H' := Aside0.mk H
    clear H
    go_wp2
    go_loopg [7] kj4 (fun kq v7 w' => ∃ (x6_2 : List Bool) (x7_2 : Int), v7 = .int .i64 x7_2 ∧ Aside0 (palinglaw18_DeadTells.l0 kq l0 l1 x6_2 x7_2 = some r) ∧ Aside0 (kq ≤ kj4) ∧ Aside0 (Kd.R Kd.bool 4 w' w.heap.size (fun _ => True) v409 x6_2) ∧ Aside0 (Below w.heap.size w w'))
    case atStart => exact ⟨(y408), (0), aq5, H', ⟨Nat.le_refl _⟩, ⟨by (with_reducible repeat (first | apply Kd.R_alloc | apply Kd.R_drewN | apply Kd.R_drew)); exact HO410.out⟩, ⟨aq0⟩⟩
    case round =>
     clear H'
     obtain ⟨x6_2, x7_2, rfl, HA, HK2, HO_6, HB⟩ := hrel
     cases gk with
     | zero => exact absurd HA.out (by simp [palinglaw18_DeadTells.l0])
     | succ k2 =>
      have H := HA.out
      clear HA
      simp only [palinglaw18_DeadTells.l0] at H
      by_cases c16 : x7_2 < (l0.length : Int)
      rotate_left
      ·rw [if_neg c16] at H
       have c16b0 : decide (x7_2 < (l0.length : Int)) = false := decide_eq_false c16
       clear c16
       (first | rw [c16b0] | (simp only [i64_w, i32_w]; rw [c16b0]) | skip)
       have H' := Aside0.mk H
       clear H
       go_wp2
       go_meet
       case rel => exact ⟨_, (x6_2), H', ⟨by have := HJ4.out; have := HK2.out; first | omega | exact Nat.le_refl _⟩, ⟨aq19⟩, ⟨aq0⟩⟩
      rw [if_pos c16] at H
      have c16b0 : decide (x7_2 < (l0.length : Int)) = true := decide_eq_true c16
      clear c16
      (first | rw [c16b0] | (simp only [i64_w, i32_w]; rw [c16b0]) | skip)
      by_cases c17 : x7_2 < (l1.length : Int)
      rotate_left
      ·rw [if_neg c17] at H
       have c17b0 : decide (x7_2 < (l1.length : Int)) = false := decide_eq_false c17
       clear c17
       have H' := Aside0.mk H
       clear H
       go_wp2
       go_meet
       case rel => exact ⟨_, (x6_2), H', ⟨by have := HJ4.out; have := HK2.out; first | omega | exact Nat.le_refl _⟩, ⟨aq19⟩, ⟨aq0⟩⟩
      rw [if_pos c17] at H
      have c17b0 : decide (x7_2 < (l1.length : Int)) = true := decide_eq_true c17
      clear c17
      by_cases c18 : 0 ≤ x7_2
      rotate_left
      ·rw [if_neg c18] at H
       exact absurd H (by simp)
      rw [if_pos c18] at H
      have c18b0 : decide (0 ≤ x7_2) = true := decide_eq_true c18
      clear c18
      by_cases c19 : x7_2 < (x6_2.length : Int)
      rotate_left
      ·rw [if_neg c19] at H
       exact absurd H (by simp)
      rw [if_pos c19] at H
      have c19b0 : decide (x7_2 < (x6_2.length : Int)) = true := decide_eq_true c19
      clear c19
      obtain ⟨y412, hy_⟩ : ∃ y_ : List Bool, y_ = (x6_2.set (x7_2 : Int).toNat ((Int.tmod (rd l1 x7_2) 2) == 1)) := ⟨_, rfl⟩
      replace H : (palinglaw18_DeadTells.l0 k2 l0 l1 y412 (wrap64 (x7_2 + 1))) = some r := aq1
      have Ny412 := Aside0.mk hy_
      clear hy_
      have H' := Aside0.mk H
      clear H
      have p411 : 0 ≤ (x7_2 : Int) := of_decide_eq_true aq2
      have q411 : x7_2 < (l1.length : Int) := of_decide_eq_true aq2
      obtain ⟨ad411, e411, hx411_0⟩ := Kd.at_int HR1.out x7_2 p411 q411
      cases e411
      replace hx411_0 := (HB.out.cell (World.block_lt_of_cell? w _ hx411_0)).trans hx411_0
      replace p411 := eq_true p411
      replace q411 := eq_true q411
      have p20 : 0 ≤ (x7_2 : Int) := of_decide_eq_true aq2
      have q20 : (x7_2 : Int) < ((x6_2.length : Int) : Int) := of_decide_eq_true aq2
      obtain ⟨go20, co20, eo20, gb0, gl20, cl20, HG20⟩ := Kd.R_form HO_6.out (by omega)
      (first | cases eo20 | (injection eo20 with ea_ en_ ec_; (first | subst ea_ | (injection ea_ with ea_; subst ea_)); subst ec_; clear en_))
      have GB20 := Aside0.mk gb0
      have GG20 := Aside0.mk HG20
      clear gb0 gl20 HG20
      obtain ⟨hx20_0, hf20_0⟩ := Kd.R_celln false HO_6.out (x7_2 : Int) p20 q20
      replace p20 := eq_true p20
      replace q20 := eq_true q20
      have HP21 := Kd.R_putg HO_6.out (x7_2 : Int) ((Int.tmod (rd l1 x7_2) 2) == 1)
      go_wp2_with (first | ((with_reducible refine gate_store (t := 4) (p := 43) rfl ?_); refine store_event (t := 4) (p := 43) (v := ?vo_w22) (w1 := (wr.setCell ⟨go20, (x7_2 : Int).toNat, none⟩ (.bool ((Int.tmod (rd l1 x7_2) 2) == 1)))) ?hg ?ho ?hn ?hr ?_; (case ho => rfl); (case hg => rfl); (case hn => rfl); (case hr => first | (go_simp; done) | (go_simp; rfl)); intro w22 hw; have hg : wr.grownBy w22 (some go20) := (by rw [hw]; exact HP21.2); have hp_ : Kd.R Kd.bool 4 w22 w.heap.size (fun _ => True) (.slice (some ⟨go20, 0, none⟩) x6_2.length co20) y412 := (by rw [hw, Ny412.out]; exact HP21.1); clear HP21; replace HO_6 := Aside0.mk (hp_); replace HB := Aside0.mk ((by rw [hw]; exact below_set (HB.out) GB20.out : Below w.heap.size w w22)); clear hg hw hp_))
      go_roundg k2
      case measure => have := HJ4.out; have := HK2.out; omega
      case rel => exact ⟨(y412), (wrap64 (x7_2 + 1)), aq5, H', ⟨by have := HJ4.out; have := HK2.out; omega⟩, ⟨aq19⟩, ⟨aq0⟩⟩
   case rest =>
    clear HC13
    try clear hf2
    try clear hf20
    obtain ⟨kq, x6_12, HA, HJ12, HO_6, HB⟩ := hcut
    cases kq with
    | zero => exact absurd HA.out (by simp [palinglaw18_DeadTells.j2])
    | succ kj12 =>
     have H := HA.out
     clear HA
     simp only [palinglaw18_DeadTells.j2] at H
     have HC23 := Aside0.mk H
     clear H
     go_upto_region 12 with (first | ((with_reducible refine gate_dst (N := 8) rfl ?_); (try (refine gate_guard (by rfl) ?_; dsimp only)); refine box_event ?hg (N := 8) ?hd (cs := #[.int .i64 0, .int .i64 0, .int .i64 0, .int .i64 0, .int .i64 0, .int .i64 0, .int .i64 0]) (t := 28) ?hr ?_; (case hd => rfl); (case hg => rfl); (case hr => first | (go_simp; done) | (go_simp; rfl)); intro gb1 hg w24 hbox hb; replace HO_6 := Aside0.mk (Kd.R_below aq19 hb); have BK1 := Aside0.mk (hbox); have GW1 := Aside0.mk ((by rw [hg]; exact (below_size aq0) : w.heap.size ≤ gb1)); have GE1 := Aside0.mk ((by rw [hg]; exact (below_size aq0) : w.heap.size ≤ gb1)); replace HB := Aside0.mk (below_step aq0 hb); clear hb hbox hg; obtain ⟨hcz25_0, hcz25_1, hcz25_2, hcz25_3, hcz25_4, hcz25_5, hcz25_6, hfz25_0, hfz25_1, hfz25_2, hfz25_3, hfz25_4, hfz25_5, hfz25_6⟩ := czf7 BK1.out))
     (try simp only [Act.put, List.setIfInBounds_toArray, List.set_cons_zero, List.set_cons_succ])
     go_cut [70] (fun v70 wc => ∃ (kq : Nat) (x70_22 : Bool), v70 = .bool x70_22 ∧ Aside0 (palinglaw18_DeadTells.j3 kq l0 x6_12 x70_22 = some r) ∧ Aside0 (kq ≤ kj12) ∧ Aside0 (Kd.R Kd.bool 4 wc w.heap.size (fun _ => True) v409 x6_12) ∧ Aside0 (wc.heap[gb1]? = some (.cells #[.int .i64 8, .int .i64 0, .int .i64 0, .int .i64 0, .int .i64 0, .int .i64 0, .int .i64 0] 28 (0, 0))) ∧ Aside0 (Below w.heap.size w wc))
     case first =>
      have H := HC23.out
      clear HC23
      obtain ⟨t414, A26, H⟩ := bS_ H
      obtain ⟨t417, A27, H⟩ := bS_ H
      obtain ⟨t420, A28, H⟩ := bS_ H
      by_cases c29 : t420 = true
      rotate_left
      ·replace c29 := Bool.eq_false_iff.mpr c29
       subst c29
       have H1 : (none) = some r := by rw [if_neg (show ¬ (false = true) by decide)] at H; exact H
       exact absurd H1 (by simp)
      subst c29
      rw [if_pos rfl] at H
      obtain ⟨t421, A30, H⟩ := bS_ H
      obtain ⟨t424, A31, H⟩ := bS_ H
      obtain ⟨t427, A32, H⟩ := bS_ H
      by_cases c33 : t427 = true
      rotate_left
      ·replace c33 := Bool.eq_false_iff.mpr c33
       subst c33
       have H1 : (none) = some r := by rw [if_neg (show ¬ (false = true) by decide)] at H; exact H
       exact absurd H1 (by simp)
      subst c33
      rw [if_pos rfl] at H
      obtain ⟨t428, A34, H⟩ := bS_ H
      obtain ⟨t431, A35, H⟩ := bS_ H
      obtain ⟨t434, A36, H⟩ := bS_ H
      have H' := Aside0.mk H
      clear H
      try go_wp2
      have n0_ : Aside0 (Kd.R Kd.bool 4 (((((((w24.setCell ⟨gb1, 0, none⟩ (.int .i64 8)).setCell ⟨gb1, 1, none⟩ (.int .i64 0)).setCell ⟨gb1, 2, none⟩ (.int .i64 0)).setCell ⟨gb1, 3, none⟩ (.int .i64 0)).setCell ⟨gb1, 4, none⟩ (.int .i64 0)).setCell ⟨gb1, 5, none⟩ (.int .i64 0)).setCell ⟨gb1, 6, none⟩ (.int .i64 0)) w.heap.size (fun _ => True) v409 x6_12) := ⟨by (with_reducible repeat (first | apply Kd.R_alloc | apply Kd.R_drewN | apply Kd.R_drew)); exact Kd.R_mono (Kd.R_far (p := ⟨gb1, 6, none⟩) (Kd.R_far (p := ⟨gb1, 5, none⟩) (Kd.R_far (p := ⟨gb1, 4, none⟩) (Kd.R_far (p := ⟨gb1, 3, none⟩) (Kd.R_far (p := ⟨gb1, 2, none⟩) (Kd.R_far (p := ⟨gb1, 1, none⟩) (Kd.R_far (p := ⟨gb1, 0, none⟩) (Kd.R_types HO_6.out BK1.out (by decide)) (fun _ hk => hk.2) (.int .i64 8)) (fun _ hk => hk.2) (.int .i64 0)) (fun _ hk => hk.2) (.int .i64 0)) (fun _ hk => hk.2) (.int .i64 0)) (fun _ hk => hk.2) (.int .i64 0)) (fun _ hk => hk.2) (.int .i64 0)) (fun _ hk => hk.2) (.int .i64 0)) (fun _ hk => trivial)⟩
      have n1_ : Aside0 ((((((((w24.setCell ⟨gb1, 0, none⟩ (.int .i64 8)).setCell ⟨gb1, 1, none⟩ (.int .i64 0)).setCell ⟨gb1, 2, none⟩ (.int .i64 0)).setCell ⟨gb1, 3, none⟩ (.int .i64 0)).setCell ⟨gb1, 4, none⟩ (.int .i64 0)).setCell ⟨gb1, 5, none⟩ (.int .i64 0)).setCell ⟨gb1, 6, none⟩ (.int .i64 0)).heap[gb1]? = some (.cells #[.int .i64 8, .int .i64 0, .int .i64 0, .int .i64 0, .int .i64 0, .int .i64 0, .int .i64 0] 28 (0, 0))) := ⟨by (with_reducible repeat (first | refine blk_drewN ?_ _ | refine blk_drew ?_ | refine blk_alloc ?_ _)); refine blk_put (cs := #[.int .i64 8, .int .i64 0, .int .i64 0, .int .i64 0, .int .i64 0, .int .i64 0, .int .i64 0]) ?_ 6 _ rfl; (with_reducible repeat (first | refine blk_drewN ?_ _ | refine blk_drew ?_ | refine blk_alloc ?_ _)); refine blk_put (cs := #[.int .i64 8, .int .i64 0, .int .i64 0, .int .i64 0, .int .i64 0, .int .i64 0, .int .i64 0]) ?_ 5 _ rfl; (with_reducible repeat (first | refine blk_drewN ?_ _ | refine blk_drew ?_ | refine blk_alloc ?_ _)); refine blk_put (cs := #[.int .i64 8, .int .i64 0, .int .i64 0, .int .i64 0, .int .i64 0, .int .i64 0, .int .i64 0]) ?_ 4 _ rfl; (with_reducible repeat (first | refine blk_drewN ?_ _ | refine blk_drew ?_ | refine blk_alloc ?_ _)); refine blk_put (cs := #[.int .i64 8, .int .i64 0, .int .i64 0, .int .i64 0, .int .i64 0, .int .i64 0, .int .i64 0]) ?_ 3 _ rfl; (with_reducible repeat (first | refine blk_drewN ?_ _ | refine blk_drew ?_ | refine blk_alloc ?_ _)); refine blk_put (cs := #[.int .i64 8, .int .i64 0, .int .i64 0, .int .i64 0, .int .i64 0, .int .i64 0, .int .i64 0]) ?_ 2 _ rfl; (with_reducible repeat (first | refine blk_drewN ?_ _ | refine blk_drew ?_ | refine blk_alloc ?_ _)); refine blk_put (cs := #[.int .i64 8, .int .i64 0, .int .i64 0, .int .i64 0, .int .i64 0, .int .i64 0, .int .i64 0]) ?_ 1 _ rfl; (with_reducible repeat (first | refine blk_drewN ?_ _ | refine blk_drew ?_ | refine blk_alloc ?_ _)); refine blk_put (cs := #[.int .i64 0, .int .i64 0, .int .i64 0, .int .i64 0, .int .i64 0, .int .i64 0, .int .i64 0]) ?_ 0 _ rfl; (with_reducible repeat (first | refine blk_drewN ?_ _ | refine blk_drew ?_ | refine blk_alloc ?_ _)); exact BK1.out⟩
      have n2_ : Aside0 (Below w.heap.size w (((((((w24.setCell ⟨gb1, 0, none⟩ (.int .i64 8)).setCell ⟨gb1, 1, none⟩ (.int .i64 0)).setCell ⟨gb1, 2, none⟩ (.int .i64 0)).setCell ⟨gb1, 3, none⟩ (.int .i64 0)).setCell ⟨gb1, 4, none⟩ (.int .i64 0)).setCell ⟨gb1, 5, none⟩ (.int .i64 0)).setCell ⟨gb1, 6, none⟩ (.int .i64 0))) := ⟨aq7⟩
      (try clear HO_6)
      (try clear BK1)
      (try clear HB)
      generalize (((((((w24.setCell ⟨gb1, 0, none⟩ (.int .i64 8)).setCell ⟨gb1, 1, none⟩ (.int .i64 0)).setCell ⟨gb1, 2, none⟩ (.int .i64 0)).setCell ⟨gb1, 3, none⟩ (.int .i64 0)).setCell ⟨gb1, 4, none⟩ (.int .i64 0)).setCell ⟨gb1, 5, none⟩ (.int .i64 0)).setCell ⟨gb1, 6, none⟩ (.int .i64 0)) = w37 at n0_ n1_ n2_ ⊢
      have HO_6 := n0_
      have BK1 := n1_
      have HB := n2_
      clear n0_ n1_ n2_
      replace HO_6 := Aside0.mk (Kd.R_drew HO_6.out)
      replace BK1 := Aside0.mk (blk_drew BK1.out)
      replace HB := Aside0.mk (below_drew1 HB.out)
      refine start_ (n := 26) (S := fun w' => w'.cell? ⟨gb1, 0, none⟩ = some (.int .i64 8) ∧ w'.cell? ⟨gb1, 1, none⟩ = some (.int .i64 0) ∧ w'.cell? ⟨gb1, 2, none⟩ = some (.int .i64 0) ∧ w'.cell? ⟨gb1, 3, none⟩ = some (.int .i64 0) ∧ w'.cell? ⟨gb1, 4, none⟩ = some (.int .i64 0) ∧ w'.cell? ⟨gb1, 5, none⟩ = some (.int .i64 0) ∧ w'.cell? ⟨gb1, 6, none⟩ = some (.int .i64 0)) (ds := []) #[false, false, false, false, false, false, false, false, false, false, false, false, false, false, false, false, false, false, false, false, false, false, false, false, false, false] (by kernel_rfl) rfl rfl ⟨(blk_cell BK1.out 0).trans rfl, (blk_cell BK1.out 1).trans rfl, (blk_cell BK1.out 2).trans rfl, (blk_cell BK1.out 3).trans rfl, (blk_cell BK1.out 4).trans rfl, (blk_cell BK1.out 5).trans rfl, (blk_cell BK1.out 6).trans rfl⟩ (fun hHeld => ?_); refine with_tabW palinglaw18_DeadTells.tab12 palinglaw18_DeadTells.bits12 (fun HT_ HW_ => ?_)
      generalize w37.drew = w38 at HO_6 BK1 HB hHeld ⊢
      refine pz (i := 0) (N := some 45) (bz 26 1) rfl rfl ?_
      refine pz (i := 2) (N := some 47) (bz 26 5) rfl rfl ?_
      refine one_ (i := 1) (N := some 46) #[true, true, true, false, false, false, false, false, false, false, false, false, false, false, false, false, false, false, false, false, false, false, false, false, false, false] rfl rfl (one_of HT_.out (by kernel_rfl)) (by decide) (fun K hK => ?_)
      refine goes_ Tryd.func10 (by kernel_rfl) rfl #[.slice A0 l0.length c0] (by rfl) rfl rfl aq4 ?_
      with_reducible refine (dead_Needless.calls kj12 _ _ l0 t414 _ ?side1 ?side2 A26.out (GlobOK.step HGL.out aq7)).mono ?_
      (case side1 => repeat (first | exact (Kd.C_below HR0.out HB.out) | (with_reducible refine Kd.C_alloc ?_ _) | (with_reducible refine Kd.C_drewN ?_ _) | (with_reducible refine Kd.C_drew ?_)))
      (case side2 => exact HC0.out)
      rintro e w39 ⟨v415, rfl, ho0, hb⟩
      refine ⟨_, rfl, ?_⟩
      have HO416 := Aside0.mk (Kd.R_lower (Kd.R_new' ho0 (Kd.R_lt aq19)) (below_size aq7))
      replace HO_6 := Aside0.mk (Kd.R_elder' aq19 (Kd.R_base ho0) hb)
      replace BK1 := Aside0.mk (blk_below (g := gb1) (o := .cells #[.int .i64 8, .int .i64 0, .int .i64 0, .int .i64 0, .int .i64 0, .int .i64 0, .int .i64 0] 28 (0, 0)) aq13 hb)
      replace HB := Aside0.mk (below_step aq7 hb)
      (try clear hb)
      (try clear hb2)
      (try clear hk)
      (try clear hi)
      (try clear ho0)
      refine hK.out _ _ ⟨(blk_cell BK1.out 0).trans rfl, (blk_cell BK1.out 1).trans rfl, (blk_cell BK1.out 2).trans rfl, (blk_cell BK1.out 3).trans rfl, (blk_cell BK1.out 4).trans rfl, (blk_cell BK1.out 5).trans rfl, (blk_cell BK1.out 6).trans rfl⟩ (fun hHeld => ?_)
      clear hK K
      refine norm_ (a' := ?_) ?_ ?_
      rotate_left
      ·show Act.put _ (some 46) _ = _
       simp only [Act.put, List.setIfInBounds_toArray, List.set_cons_zero, List.set_cons_succ, i64_w, i32_w]
       rfl
      refine one_ (i := 3) (N := some 48) #[true, true, true, true, false, false, false, false, false, false, false, false, false, false, false, false, false, false, false, false, false, false, false, false, false, false] rfl rfl (one_of HT_.out (by kernel_rfl)) (by decide) (fun K hK => ?_)
      refine goes_ Tryd.func11 (by kernel_rfl) rfl #[.slice A0 l0.length c0] (by rfl) rfl rfl aq4 ?_
      with_reducible refine (palingref18_Needless.calls kj12 _ _ l0 t417 _ ?side1 ?side2 A27.out).mono ?_
      (case side1 => repeat (first | exact (Kd.C_below HR0.out HB.out) | (with_reducible refine Kd.C_alloc ?_ _) | (with_reducible refine Kd.C_drewN ?_ _) | (with_reducible refine Kd.C_drew ?_)))
      (case side2 => exact HC0.out)
      rintro e w40 ⟨v418, rfl, ho0, hb⟩
      refine ⟨_, rfl, ?_⟩
      have HO419 := Aside0.mk (Kd.R_lower (Kd.R_new' (Kd.R_new' ho0 (Kd.R_lt aq19)) (Kd.R_lt aq34)) (below_size aq7))
      replace HO_6 := Aside0.mk (Kd.R_elder' aq19 (Kd.R_base ho0) hb)
      replace HO416 := Aside0.mk (Kd.R_elder' aq34 (Kd.R_base ho0) hb)
      replace BK1 := Aside0.mk (blk_below (g := gb1) (o := .cells #[.int .i64 8, .int .i64 0, .int .i64 0, .int .i64 0, .int .i64 0, .int .i64 0, .int .i64 0] 28 (0, 0)) aq13 hb)
      replace HB := Aside0.mk (below_step aq7 hb)
      (try clear hb)
      (try clear hb2)
      (try clear hk)
      (try clear hi)
      (try clear ho0)
      obtain ⟨Ao41, co41, eo41⟩ := Kd.R_slice HO416.out
      (first | subst eo41 | (injection eo41 with f1_ f2_ f3_; have f4_ := f1_.symm; have f5_ := f3_.symm; clear f1_ f2_ f3_; subst f4_; subst f5_))
      obtain ⟨Ao42, co42, eo42⟩ := Kd.R_slice HO419.out
      (first | subst eo42 | (injection eo42 with f1_ f2_ f3_; have f4_ := f1_.symm; have f5_ := f3_.symm; clear f1_ f2_ f3_; subst f4_; subst f5_))
      refine hK.out _ _ ⟨(blk_cell BK1.out 0).trans rfl, (blk_cell BK1.out 1).trans rfl, (blk_cell BK1.out 2).trans rfl, (blk_cell BK1.out 3).trans rfl, (blk_cell BK1.out 4).trans rfl, (blk_cell BK1.out 5).trans rfl, (blk_cell BK1.out 6).trans rfl⟩ (fun hHeld => ?_)
      clear hK K
      refine norm_ (a' := ?_) ?_ ?_
      rotate_left
      ·show Act.put _ (some 48) _ = _
       simp only [Act.put, List.setIfInBounds_toArray, List.set_cons_zero, List.set_cons_succ, i64_w, i32_w]
       rfl
      refine one_ (i := 4) (N := some 49) #[true, true, true, true, true, false, false, false, false, false, false, false, false, false, false, false, false, false, false, false, false, false, false, false, false, false] rfl rfl (one_of HT_.out (by kernel_rfl)) (by decide) (fun K hK => ?_)
      refine goes_ Tryd.func9 (by kernel_rfl) rfl #[.slice Ao41 t414.length co41, .slice Ao42 t417.length co42] (by rfl) rfl rfl aq4 ?_
      with_reducible refine (palingref14_Bools.calls kj12 _ _ t414 _ _ t417 true _ ?side1 ?side2 ?side3 ?side4 A28.out).mono ?_
      (case side1 => repeat (first | exact (Kd.R_reads' HO416.out).2.2 | (with_reducible refine Kd.C_alloc ?_ _) | (with_reducible refine Kd.C_drewN ?_ _) | (with_reducible refine Kd.C_drew ?_)))
      (case side2 => exact (Kd.R_reads' HO416.out).2.1)
      (case side3 => repeat (first | exact (Kd.R_reads' HO419.out).2.2 | (with_reducible refine Kd.C_alloc ?_ _) | (with_reducible refine Kd.C_drewN ?_ _) | (with_reducible refine Kd.C_drew ?_)))
      (case side4 => exact (Kd.R_reads' HO419.out).2.1)
      rintro e w' ⟨rfl, ⟨nd, rfl⟩⟩
      refine ⟨_, rfl, ?_⟩
      refine hK.out _ _ ⟨(blk_cell BK1.out 0).trans rfl, (blk_cell BK1.out 1).trans rfl, (blk_cell BK1.out 2).trans rfl, (blk_cell BK1.out 3).trans rfl, (blk_cell BK1.out 4).trans rfl, (blk_cell BK1.out 5).trans rfl, (blk_cell BK1.out 6).trans rfl⟩ (fun hHeld => ?_)
      clear hK K
      refine norm_ (a' := ?_) ?_ ?_
      rotate_left
      ·show Act.put _ (some 49) _ = _
       simp only [Act.put, List.setIfInBounds_toArray, List.set_cons_zero, List.set_cons_succ, i64_w, i32_w]
       rfl
      refine pz (i := 5) (N := some 50) (bz 26 63) rfl rfl ?_
      refine pz (i := 6) (N := some 51) (bz 26 127) rfl rfl ?_
      refine pz (i := 7) (N := some 52) (bz 26 255) rfl rfl ?_
      refine pz (i := 9) (N := some 54) (bz 26 767) rfl rfl ?_
      refine one_ (i := 8) (N := some 53) #[true, true, true, true, true, true, true, true, true, true, false, false, false, false, false, false, false, false, false, false, false, false, false, false, false, false] rfl rfl (one_of HT_.out (by kernel_rfl)) (by decide) (fun K hK => ?_)
      refine goes_ Tryd.func13 (by kernel_rfl) rfl #[.slice A0 l0.length c0] (by rfl) rfl rfl aq4 ?_
      with_reducible refine (dead_Code.calls kj12 (fun k_ => k_ < w.heap.size) _ _ l0 t421 _ ?side1 A30.out (GlobOK.step HGL.out aq7)).mono ?_
      (case side1 => exact Kd.V_mk HC0.out (Kd.F_below (Kd.C_F k28_heap HR0.out) aq7))
      rintro e w43 ⟨v422, rfl, ho0, hb⟩
      refine ⟨_, rfl, ?_⟩
      replace HO_6 := Aside0.mk (Kd.R_below aq19 hb)
      replace HO416 := Aside0.mk (Kd.R_below aq34 hb)
      replace HO419 := Aside0.mk (Kd.R_below aq40 hb)
      have HO423 := Aside0.mk (Kd.R_lower (Kd.R_newB (Kd.R_mono (ok' := fun k_ => True) ho0 (fun _ hk_ => trivial)) (g := gb1) (o := .cells #[.int .i64 8, .int .i64 0, .int .i64 0, .int .i64 0, .int .i64 0, .int .i64 0, .int .i64 0] 28 (0, 0)) aq13) (below_size aq7))
      replace BK1 := Aside0.mk (blk_below (g := gb1) (o := .cells #[.int .i64 8, .int .i64 0, .int .i64 0, .int .i64 0, .int .i64 0, .int .i64 0, .int .i64 0] 28 (0, 0)) aq13 hb)
      replace HB := Aside0.mk (below_step aq7 hb)
      (try clear hb)
      (try clear hb2)
      (try clear hk)
      (try clear hi)
      (try clear ho0)
      refine hK.out _ _ ⟨(blk_cell BK1.out 0).trans rfl, (blk_cell BK1.out 1).trans rfl, (blk_cell BK1.out 2).trans rfl, (blk_cell BK1.out 3).trans rfl, (blk_cell BK1.out 4).trans rfl, (blk_cell BK1.out 5).trans rfl, (blk_cell BK1.out 6).trans rfl⟩ (fun hHeld => ?_)
      clear hK K
      refine norm_ (a' := ?_) ?_ ?_
      rotate_left
      ·show Act.put _ (some 53) _ = _
       simp only [Act.put, List.setIfInBounds_toArray, List.set_cons_zero, List.set_cons_succ, i64_w, i32_w]
       rfl
      refine one_ (i := 10) (N := some 55) #[true, true, true, true, true, true, true, true, true, true, true, false, false, false, false, false, false, false, false, false, false, false, false, false, false, false] rfl rfl (one_of HT_.out (by kernel_rfl)) (by decide) (fun K hK => ?_)
      refine goes_ Tryd.func14 (by kernel_rfl) rfl #[.slice A0 l0.length c0] (by rfl) rfl rfl aq4 ?_
      with_reducible refine (palingref18_Code.calls kj12 (fun k_ => k_ < w.heap.size) _ _ l0 t424 _ ?side1 A31.out).mono ?_
      (case side1 => exact Kd.V_mk HC0.out (Kd.F_below (Kd.C_F k28_heap HR0.out) aq7))
      rintro e w44 ⟨v425, rfl, ho0, hb⟩
      refine ⟨_, rfl, ?_⟩
      have n0_ := Aside0.mk (Kd.R_below aq19 hb)
      have n1_ := Aside0.mk (Kd.R_below aq34 hb)
      have n2_ := Aside0.mk (Kd.R_below aq40 hb)
      have n3_ := Aside0.mk (Kd.R_below aq37 hb)
      have n4_ := Aside0.mk (Kd.V_lower (Kd.V_mono (ok' := fun k_ => some k_ ≠ (v409 : Value).ownBlock ∧ some k_ ≠ (.slice Ao41 t414.length co41 : Value).ownBlock ∧ some k_ ≠ (.slice Ao42 t417.length co42 : Value).ownBlock ∧ some k_ ≠ (v422 : Value).ownBlock ∧ k_ ≠ gb1) ho0 (fun k_ hk_ => ⟨Or.elim hk_ (fun hs_ => fun e_ => Nat.not_le.2 hs_ (Kd.R_base HO_6.out k_ e_.symm)) (fun hn_ => (Kd.fresh' (Kd.R_lt aq19) k_ hn_)), Or.elim hk_ (fun hs_ => fun e_ => Nat.not_le.2 hs_ (Kd.R_base HO416.out k_ e_.symm)) (fun hn_ => (Kd.fresh' (Kd.R_lt aq34) k_ hn_)), Or.elim hk_ (fun hs_ => fun e_ => Nat.not_le.2 hs_ (Kd.R_base HO419.out k_ e_.symm)) (fun hn_ => (Kd.fresh' (Kd.R_lt aq40) k_ hn_)), Or.elim hk_ (fun hs_ => fun e_ => Nat.not_le.2 hs_ (Kd.R_base HO423.out k_ e_.symm)) (fun hn_ => (Kd.fresh' (Kd.R_lt aq37) k_ hn_)), Or.elim hk_ (fun hs_ => fun e_ => Nat.not_le.2 hs_ (by rw [e_]; exact GW1.out)) (fun hn_ => (Kd.freshB (g := gb1) (o := .cells #[.int .i64 8, .int .i64 0, .int .i64 0, .int .i64 0, .int .i64 0, .int .i64 0, .int .i64 0] 28 (0, 0)) aq13 k_ hn_))⟩)) (below_size aq7))
      have n5_ := Aside0.mk (blk_below (g := gb1) (o := .cells #[.int .i64 8, .int .i64 0, .int .i64 0, .int .i64 0, .int .i64 0, .int .i64 0, .int .i64 0] 28 (0, 0)) aq13 hb)
      have n6_ := Aside0.mk (below_step aq7 hb)
      clear HO_6 HO416 HO419 HO423 BK1 HB
      have HO_6 := n0_
      have HO416 := n1_
      have HO419 := n2_
      have HO423 := n3_
      have HO426 := n4_
      have BK1 := n5_
      have HB := n6_
      clear n0_ n1_ n2_ n3_ n4_ n5_ n6_
      (try clear hb)
      (try clear hb2)
      (try clear hk)
      (try clear hi)
      (try clear ho0)
      obtain ⟨Ao45, co45, eo45⟩ := Kd.R_slice HO423.out
      (first | subst eo45 | (injection eo45 with f1_ f2_ f3_; have f4_ := f1_.symm; have f5_ := f3_.symm; clear f1_ f2_ f3_; subst f4_; subst f5_))
      obtain ⟨Ao46, co46, eo46⟩ := Kd.V_slice HO426.out
      (first | subst eo46 | (injection eo46 with f1_ f2_ f3_; have f4_ := f1_.symm; have f5_ := f3_.symm; clear f1_ f2_ f3_; subst f4_; subst f5_))
      refine hK.out _ _ ⟨(blk_cell BK1.out 0).trans rfl, (blk_cell BK1.out 1).trans rfl, (blk_cell BK1.out 2).trans rfl, (blk_cell BK1.out 3).trans rfl, (blk_cell BK1.out 4).trans rfl, (blk_cell BK1.out 5).trans rfl, (blk_cell BK1.out 6).trans rfl⟩ (fun hHeld => ?_)
      clear hK K
      refine norm_ (a' := ?_) ?_ ?_
      rotate_left
      ·show Act.put _ (some 55) _ = _
       simp only [Act.put, List.setIfInBounds_toArray, List.set_cons_zero, List.set_cons_succ, i64_w, i32_w]
       rfl
      refine one_ (i := 11) (N := some 56) #[true, true, true, true, true, true, true, true, true, true, true, true, false, false, false, false, false, false, false, false, false, false, false, false, false, false] rfl rfl (one_of HT_.out (by kernel_rfl)) (by decide) (fun K hK => ?_)
      refine goes_ Tryd.func12 (by kernel_rfl) rfl #[.slice Ao45 t421.length co45, .slice Ao46 t424.length co46] (by rfl) rfl rfl aq4 ?_
      with_reducible refine (palingref13_Same.calls kj12 _ _ t421 _ _ t424 true _ ?side1 ?side2 ?side3 ?side4 A32.out).mono ?_
      (case side1 => repeat (first | exact (Kd.R_reads' HO423.out).2.2 | (with_reducible refine Kd.C_alloc ?_ _) | (with_reducible refine Kd.C_drewN ?_ _) | (with_reducible refine Kd.C_drew ?_)))
      (case side2 => exact (Kd.R_reads' HO423.out).2.1)
      (case side3 => repeat (first | exact (Kd.V_reads' HO426.out).2.2 | (with_reducible refine Kd.C_alloc ?_ _) | (with_reducible refine Kd.C_drewN ?_ _) | (with_reducible refine Kd.C_drew ?_)))
      (case side4 => exact (Kd.V_reads' HO426.out).2.1)
      rintro e w' ⟨rfl, ⟨nd, rfl⟩⟩
      refine ⟨_, rfl, ?_⟩
      obtain ⟨Ao47, co47, eo47⟩ := Kd.R_slice HO_6.out
      (first | subst eo47 | (injection eo47 with f1_ f2_ f3_; have f4_ := f1_.symm; have f5_ := f3_.symm; clear f1_ f2_ f3_; subst f4_; subst f5_))
      refine hK.out _ _ ⟨(blk_cell BK1.out 0).trans rfl, (blk_cell BK1.out 1).trans rfl, (blk_cell BK1.out 2).trans rfl, (blk_cell BK1.out 3).trans rfl, (blk_cell BK1.out 4).trans rfl, (blk_cell BK1.out 5).trans rfl, (blk_cell BK1.out 6).trans rfl⟩ (fun hHeld => ?_)
      clear hK K
      refine norm_ (a' := ?_) ?_ ?_
      rotate_left
      ·show Act.put _ (some 56) _ = _
       simp only [Act.put, List.setIfInBounds_toArray, List.set_cons_zero, List.set_cons_succ, i64_w, i32_w]
       rfl
      refine pz (i := 12) (N := some 57) (bz 26 8191) rfl rfl ?_
      refine pz (i := 13) (N := some 58) (bz 26 16383) rfl rfl ?_
      refine pz (i := 14) (N := some 59) (bz 26 32767) rfl rfl ?_
      refine pz (i := 15) (N := some 60) (bz 26 65535) rfl rfl ?_
      refine pz (i := 17) (N := some 62) (bz 26 196607) rfl rfl ?_
      refine pz (i := 19) (N := some 64) (bz 26 720895) rfl rfl ?_
      refine pz (i := 21) (N := some 66) (bz 26 2818047) rfl rfl ?_
      refine tz7 (i := 16) (N := some 61) (bz 26 2883583) rfl rfl hHeld ?_
      refine tz7 (i := 20) (N := some 65) (bz 26 3932159) rfl rfl hHeld ?_
      refine one_ (i := 18) (N := some 63) #[true, true, true, true, true, true, true, true, true, true, true, true, true, true, true, true, true, true, true, true, true, true, false, false, false, false] rfl rfl (one_of HT_.out (by kernel_rfl)) (by decide) (fun K hK => ?_)
      refine goes_ Tryd.func15 (by kernel_rfl) rfl #[.slice A0 l0.length c0, .agg #[.int .i64 8, .int .i64 0, .int .i64 0, .int .i64 0, .int .i64 0, .int .i64 0, .int .i64 0], .slice Ao47 x6_12.length co47] (by rfl) rfl rfl aq4 ?_
      with_reducible refine (dead_Insert.calls kj12 _ _ l0 8 0 0 0 0 0 0 _ _ x6_12 t428 _ ?side1 ?side2 ?side3 ?side4 A34.out).mono ?_
      (case side1 => repeat (first | exact (Kd.C_below HR0.out aq7) | (with_reducible refine Kd.C_alloc ?_ _) | (with_reducible refine Kd.C_drewN ?_ _) | (with_reducible refine Kd.C_drew ?_)))
      (case side2 => exact HC0.out)
      (case side3 => repeat (first | exact (Kd.R_reads' HO_6.out).2.2 | (with_reducible refine Kd.C_alloc ?_ _) | (with_reducible refine Kd.C_drewN ?_ _) | (with_reducible refine Kd.C_drew ?_)))
      (case side4 => exact (Kd.R_reads' HO_6.out).2.1)
      rintro e w48 ⟨v429, rfl, ho0, hb⟩
      refine ⟨_, rfl, ?_⟩
      have n0_ := Aside0.mk (Kd.R_below aq19 hb)
      have n1_ := Aside0.mk (Kd.R_below aq34 hb)
      have n2_ := Aside0.mk (Kd.R_below aq40 hb)
      have n3_ := Aside0.mk (Kd.R_elder' aq37 (Kd.R_base ho0) hb)
      have n4_ := Aside0.mk (Kd.V_elder' (by (with_reducible repeat (first | apply Kd.V_alloc | apply Kd.V_drewN | apply Kd.V_drew)); exact HO426.out) (Kd.R_base ho0) hb)
      have n5_ := Aside0.mk (Kd.R_lower (Kd.R_newB (Kd.R_new' ho0 (Kd.R_lt aq37)) (g := gb1) (o := .cells #[.int .i64 8, .int .i64 0, .int .i64 0, .int .i64 0, .int .i64 0, .int .i64 0, .int .i64 0] 28 (0, 0)) aq13) (below_size aq7))
      have n6_ := Aside0.mk (blk_below (g := gb1) (o := .cells #[.int .i64 8, .int .i64 0, .int .i64 0, .int .i64 0, .int .i64 0, .int .i64 0, .int .i64 0] 28 (0, 0)) aq13 hb)
      have n7_ := Aside0.mk (below_step aq7 hb)
      clear HO_6 HO416 HO419 HO423 HO426 BK1 HB
      have HO_6 := n0_
      have HO416 := n1_
      have HO419 := n2_
      have HO423 := n3_
      have HO426 := n4_
      have HO430 := n5_
      have BK1 := n6_
      have HB := n7_
      clear n0_ n1_ n2_ n3_ n4_ n5_ n6_ n7_
      (try clear hb)
      (try clear hb2)
      (try clear hk)
      (try clear hi)
      (try clear ho0)
      refine hK.out _ _ ⟨(blk_cell BK1.out 0).trans rfl, (blk_cell BK1.out 1).trans rfl, (blk_cell BK1.out 2).trans rfl, (blk_cell BK1.out 3).trans rfl, (blk_cell BK1.out 4).trans rfl, (blk_cell BK1.out 5).trans rfl, (blk_cell BK1.out 6).trans rfl⟩ (fun hHeld => ?_)
      clear hK K
      refine norm_ (a' := ?_) ?_ ?_
      rotate_left
      ·show Act.put _ (some 63) _ = _
       simp only [Act.put, List.setIfInBounds_toArray, List.set_cons_zero, List.set_cons_succ, i64_w, i32_w]
       rfl
      refine one_ (i := 22) (N := some 67) #[true, true, true, true, true, true, true, true, true, true, true, true, true, true, true, true, true, true, true, true, true, true, true, false, false, false] rfl rfl (one_of HT_.out (by kernel_rfl)) (by decide) (fun K hK => ?_)
      refine goes_ Tryd.func16 (by kernel_rfl) rfl #[.slice A0 l0.length c0, .agg #[.int .i64 8, .int .i64 0, .int .i64 0, .int .i64 0, .int .i64 0, .int .i64 0, .int .i64 0], .slice Ao47 x6_12.length co47] (by rfl) rfl rfl aq4 ?_
      with_reducible refine (palingref18_Insert.calls kj12 _ _ l0 8 0 0 0 0 0 0 _ _ x6_12 t431 _ ?side1 ?side2 ?side3 ?side4 A35.out).mono ?_
      (case side1 => repeat (first | exact (Kd.C_below HR0.out HB.out) | (with_reducible refine Kd.C_alloc ?_ _) | (with_reducible refine Kd.C_drewN ?_ _) | (with_reducible refine Kd.C_drew ?_)))
      (case side2 => exact HC0.out)
      (case side3 => repeat (first | exact (Kd.R_reads' HO_6.out).2.2 | (with_reducible refine Kd.C_alloc ?_ _) | (with_reducible refine Kd.C_drewN ?_ _) | (with_reducible refine Kd.C_drew ?_)))
      (case side4 => exact (Kd.R_reads' HO_6.out).2.1)
      rintro e w49 ⟨v432, rfl, ho0, hb⟩
      refine ⟨_, rfl, ?_⟩
      have n0_ := Aside0.mk (Kd.R_below aq19 hb)
      have n1_ := Aside0.mk (Kd.R_below aq34 hb)
      have n2_ := Aside0.mk (Kd.R_below aq40 hb)
      have n3_ := Aside0.mk (Kd.R_elder' aq37 (Kd.R_base ho0) hb)
      have n4_ := Aside0.mk (Kd.V_elder' (by (with_reducible repeat (first | apply Kd.V_alloc | apply Kd.V_drewN | apply Kd.V_drew)); exact HO426.out) (Kd.R_base ho0) hb)
      have n5_ := Aside0.mk (Kd.R_elder' (by (with_reducible repeat (first | apply Kd.R_alloc | apply Kd.R_drewN | apply Kd.R_drew)); exact HO430.out) (Kd.R_base ho0) hb)
      have n6_ := Aside0.mk (Kd.R_lower (Kd.R_newB (Kd.R_new' (Kd.R_new' ho0 (Kd.R_lt aq37)) (Kd.R_lt (by (with_reducible repeat (first | apply Kd.R_alloc | apply Kd.R_drewN | apply Kd.R_drew)); exact HO430.out))) (g := gb1) (o := .cells #[.int .i64 8, .int .i64 0, .int .i64 0, .int .i64 0, .int .i64 0, .int .i64 0, .int .i64 0] 28 (0, 0)) aq13) (below_size aq7))
      have n7_ := Aside0.mk (blk_below (g := gb1) (o := .cells #[.int .i64 8, .int .i64 0, .int .i64 0, .int .i64 0, .int .i64 0, .int .i64 0, .int .i64 0] 28 (0, 0)) aq13 hb)
      have n8_ := Aside0.mk (below_step aq7 hb)
      clear HO_6 HO416 HO419 HO423 HO426 HO430 BK1 HB
      have HO_6 := n0_
      have HO416 := n1_
      have HO419 := n2_
      have HO423 := n3_
      have HO426 := n4_
      have HO430 := n5_
      have HO433 := n6_
      have BK1 := n7_
      have HB := n8_
      clear n0_ n1_ n2_ n3_ n4_ n5_ n6_ n7_ n8_
      (try clear hb)
      (try clear hb2)
      (try clear hk)
      (try clear hi)
      (try clear ho0)
      obtain ⟨Ao50, co50, eo50⟩ := Kd.R_slice HO430.out
      (first | subst eo50 | (injection eo50 with f1_ f2_ f3_; have f4_ := f1_.symm; have f5_ := f3_.symm; clear f1_ f2_ f3_; subst f4_; subst f5_))
      obtain ⟨Ao51, co51, eo51⟩ := Kd.R_slice HO433.out
      (first | subst eo51 | (injection eo51 with f1_ f2_ f3_; have f4_ := f1_.symm; have f5_ := f3_.symm; clear f1_ f2_ f3_; subst f4_; subst f5_))
      refine hK.out _ _ ⟨(blk_cell BK1.out 0).trans rfl, (blk_cell BK1.out 1).trans rfl, (blk_cell BK1.out 2).trans rfl, (blk_cell BK1.out 3).trans rfl, (blk_cell BK1.out 4).trans rfl, (blk_cell BK1.out 5).trans rfl, (blk_cell BK1.out 6).trans rfl⟩ (fun hHeld => ?_)
      clear hK K
      refine norm_ (a' := ?_) ?_ ?_
      rotate_left
      ·show Act.put _ (some 67) _ = _
       simp only [Act.put, List.setIfInBounds_toArray, List.set_cons_zero, List.set_cons_succ, i64_w, i32_w]
       rfl
      refine one_ (i := 23) (N := some 68) #[true, true, true, true, true, true, true, true, true, true, true, true, true, true, true, true, true, true, true, true, true, true, true, true, false, false] rfl rfl (one_of HT_.out (by kernel_rfl)) (by decide) (fun K hK => ?_)
      refine goes_ Tryd.func12 (by kernel_rfl) rfl #[.slice Ao50 t428.length co50, .slice Ao51 t431.length co51] (by rfl) rfl rfl aq4 ?_
      with_reducible refine (palingref13_Same.calls kj12 _ _ t428 _ _ t431 t434 _ ?side1 ?side2 ?side3 ?side4 A36.out).mono ?_
      (case side1 => repeat (first | exact (Kd.R_reads' HO430.out).2.2 | (with_reducible refine Kd.C_alloc ?_ _) | (with_reducible refine Kd.C_drewN ?_ _) | (with_reducible refine Kd.C_drew ?_)))
      (case side2 => exact (Kd.R_reads' HO430.out).2.1)
      (case side3 => repeat (first | exact (Kd.R_reads' HO433.out).2.2 | (with_reducible refine Kd.C_alloc ?_ _) | (with_reducible refine Kd.C_drewN ?_ _) | (with_reducible refine Kd.C_drew ?_)))
      (case side4 => exact (Kd.R_reads' HO433.out).2.1)
      rintro e w' ⟨rfl, ⟨nd, rfl⟩⟩
      refine ⟨_, rfl, ?_⟩
      refine hK.out _ _ ⟨(blk_cell BK1.out 0).trans rfl, (blk_cell BK1.out 1).trans rfl, (blk_cell BK1.out 2).trans rfl, (blk_cell BK1.out 3).trans rfl, (blk_cell BK1.out 4).trans rfl, (blk_cell BK1.out 5).trans rfl, (blk_cell BK1.out 6).trans rfl⟩ (fun hHeld => ?_)
      clear hK K
      refine norm_ (a' := ?_) ?_ ?_
      rotate_left
      ·show Act.put _ (some 68) _ = _
       simp only [Act.put, List.setIfInBounds_toArray, List.set_cons_zero, List.set_cons_succ, i64_w, i32_w]
       rfl
      refine pz (i := 24) (N := some 69) (bz 26 33554431) rfl rfl ?_
      refine pz (i := 25) (N := some 70) (bz 26 67108863) rfl rfl ?_
      refine done_ (done_of HT_.out (by kernel_rfl)) ?_
      try go_wp2
      go_meet
      case rel => exact ⟨_, (!t434), aq5, H', ⟨by have := HJ4.out; have := HJ12.out; first | omega | exact Nat.le_refl _⟩, ⟨by (with_reducible repeat (first | apply Kd.R_alloc | apply Kd.R_drewN | apply Kd.R_drew)); exact Kd.R_mono HO_6.out (fun _ hk => trivial)⟩, ⟨aq13⟩, ⟨aq7⟩⟩
     case rest =>
      clear HC23
      obtain ⟨kq, x70_22, rfl, HA, HJ22, HO_6, BK1, HB⟩ := hcut
      cases kq with
      | zero => exact absurd HA.out (by simp [palinglaw18_DeadTells.j3])
      | succ kj22 =>
       have H := HA.out
       clear HA
       simp only [palinglaw18_DeadTells.j3] at H
       by_cases c68 : x70_22 = true
       ·subst c68
        rw [if_pos rfl] at H
        obtain rfl := Option.some.inj H
        go_wp2
        go_ret
        exact ⟨aq11, aq7⟩
       replace c68 := Bool.eq_false_iff.mpr c68
       subst c68
       rw [if_neg nf_] at H
       obtain ⟨ji69, hji69⟩ : ∃ j_ : Int, (wrap64 ((x6_12.length : Int) - 1)) = j_ := ⟨_, rfl⟩
       replace H : (if 0 ≤ (ji69) then (if (ji69) < (x6_12.length : Int) then ((some (x6_12.set ((ji69) : Int).toNat false : List Bool)).bind fun y435 => ((dead_Less.f kj22 l0 y435).bind fun t436 => ((palingref18_Less.f kj22 l0 y435).bind fun t439 => ((palingref13_Same.f kj22 t436 t439).bind fun t442 => (some t442))))) else (none)) else (none)) = some r := by first | (rw [hji69] at H; exact H) | (simp only [hji69] at H ⊢; exact H)
       have hji69w : (IntKind.i64.wrap ((x6_12.length : Int) - 1)) = ji69 := (i64_w _).trans hji69
       by_cases c70 : 0 ≤ (ji69)
       rotate_left
       ·rw [if_neg c70] at H
        exact absurd H (by simp)
       rw [if_pos c70] at H
       have c70b0 : decide (0 ≤ (ji69)) = true := decide_eq_true c70
       clear c70
       by_cases c71 : (ji69) < (x6_12.length : Int)
       rotate_left
       ·rw [if_neg c71] at H
        exact absurd H (by simp)
       rw [if_pos c71] at H
       have c71b0 : decide ((ji69) < (x6_12.length : Int)) = true := decide_eq_true c71
       clear c71
       obtain ⟨y435, hy_⟩ : ∃ y_ : List Bool, y_ = (x6_12.set ((ji69) : Int).toNat false) := ⟨_, rfl⟩
       replace H : ((dead_Less.f kj22 l0 y435).bind fun t436 => ((palingref18_Less.f kj22 l0 y435).bind fun t439 => ((palingref13_Same.f kj22 t436 t439).bind fun t442 => (some t442)))) = some r := aq1
       have Ny435 := Aside0.mk hy_
       clear hy_
       obtain ⟨t436, A73, H⟩ := bS_ H
       obtain ⟨t439, A74, H⟩ := bS_ H
       obtain ⟨t442, A75, H⟩ := bS_ H
       obtain rfl := Option.some.inj H
       obtain ⟨Ao76, co76, eo76⟩ := Kd.R_slice HO_6.out
       subst eo76
       have p72 : 0 ≤ ((ji69) : Int) := of_decide_eq_true aq2
       have q72 : ((ji69) : Int) < ((x6_12.length : Int) : Int) := of_decide_eq_true aq2
       obtain ⟨go72, co72, eo72, gb2, gl72, cl72, HG72⟩ := Kd.R_form HO_6.out (by omega)
       (first | cases eo72 | (injection eo72 with ea_ en_ ec_; (first | subst ea_ | (injection ea_ with ea_; subst ea_)); subst ec_; clear en_))
       have GB72 := Aside0.mk gb2
       have GG72 := Aside0.mk HG72
       clear gb2 gl72 HG72
       obtain ⟨hx72_0, hf72_0⟩ := Kd.R_celln false HO_6.out ((ji69) : Int) p72 q72
       replace p72 := eq_true p72
       replace q72 := eq_true q72
       have HP77 := Kd.R_putg HO_6.out ((ji69) : Int) false
       go_wp2_with (first | ((with_reducible refine gate_store (t := 4) (p := 75) rfl ?_); refine store_event (t := 4) (p := 75) (v := ?vo_w78) (w1 := (wc.setCell ⟨go72, ((ji69) : Int).toNat, none⟩ (.bool false))) ?hg ?ho ?hn ?hr ?_; (case ho => rfl); (case hg => rfl); (case hn => rfl); (case hr => first | (go_simp; done) | (go_simp; rfl)); intro w78 hw; have hg : wc.grownBy w78 (some go72) := (by rw [hw]; exact HP77.2); have hp_ : Kd.R Kd.bool 4 w78 w.heap.size (fun _ => True) (.slice (some ⟨go72, 0, none⟩) x6_12.length co76) y435 := (by rw [hw, Ny435.out]; exact HP77.1); clear HP77; replace BK1 := Aside0.mk (blk_grown (g := gb1) (o := .cells #[.int .i64 8, .int .i64 0, .int .i64 0, .int .i64 0, .int .i64 0, .int .i64 0, .int .i64 0] 28 (0, 0)) aq13 hg (Kd.R_ne HO_6.out BK1.out (by decide))); replace HO_6 := Aside0.mk (hp_); replace HB := Aside0.mk ((by rw [hw]; exact below_set (HB.out) GB72.out : Below w.heap.size w w78)); clear hg hw hp_) | ((with_reducible refine gate_callee (f := 17) rfl ?_); refine goesL_ (some 78) rfl rfl Tryd.func17 (by kernel_rfl) rfl #[.slice A0 l0.length c0, .slice (some ⟨go72, 0, none⟩) y435.length co76] rfl (by (try simp only [List.map_toArray, List.map_cons, List.map_nil]); first | done | (rw [show y435.length = x6_12.length from (Kd.R_reads' HO_6.out).1.symm] <;> rfl) | rfl | (simp only [List.length_drop, List.length_take]; rfl)) ?_; (with_reducible refine (dead_Less.calls kj22 _ _ l0 _ _ y435 t436 _ ?side1 ?side2 ?side3 ?side4 A73.out).mono ?_); (case side1 => repeat (first | exact (Kd.C_below HR0.out HB.out) | (with_reducible refine Kd.C_alloc ?_ _) | (with_reducible refine Kd.C_drewN ?_ _) | (with_reducible refine Kd.C_drew ?_))); (case side2 => exact HC0.out); (case side3 => repeat (first | exact (Kd.R_reads' HO_6.out).2.2 | (with_reducible refine Kd.C_alloc ?_ _) | (with_reducible refine Kd.C_drewN ?_ _) | (with_reducible refine Kd.C_drew ?_))); (case side4 => rw [show y435.length = x6_12.length from (Kd.R_reads' HO_6.out).1.symm]; exact (Kd.R_reads' HO_6.out).2.1); rintro e w79 ⟨v437, rfl, ho0, hb⟩; refine ⟨_, rfl, ?_⟩; replace HO_6 := Aside0.mk (Kd.R_below aq19 hb); have HO438 := Aside0.mk (Kd.R_lower (Kd.R_newB ho0 (g := gb1) (o := .cells #[.int .i64 8, .int .i64 0, .int .i64 0, .int .i64 0, .int .i64 0, .int .i64 0, .int .i64 0] 28 (0, 0)) aq13) (below_size aq7)); replace BK1 := Aside0.mk (blk_below (g := gb1) (o := .cells #[.int .i64 8, .int .i64 0, .int .i64 0, .int .i64 0, .int .i64 0, .int .i64 0, .int .i64 0] 28 (0, 0)) aq13 hb); replace HB := Aside0.mk (below_step aq7 hb); (try clear hb); (try clear hb2); (try clear hk); (try clear hi); (try clear ho0)) | ((with_reducible refine gate_callee (f := 18) rfl ?_); refine goesL_ (some 81) rfl rfl Tryd.func18 (by kernel_rfl) rfl #[.slice A0 l0.length c0, .slice (some ⟨go72, 0, none⟩) y435.length co76] rfl (by (try simp only [List.map_toArray, List.map_cons, List.map_nil]); first | done | (rw [show y435.length = x6_12.length from (Kd.R_reads' HO_6.out).1.symm] <;> rfl) | rfl | (simp only [List.length_drop, List.length_take]; rfl)) ?_; (with_reducible refine (palingref18_Less.calls kj22 _ _ l0 _ _ y435 t439 _ ?side1 ?side2 ?side3 ?side4 A74.out).mono ?_); (case side1 => repeat (first | exact (Kd.C_below HR0.out HB.out) | (with_reducible refine Kd.C_alloc ?_ _) | (with_reducible refine Kd.C_drewN ?_ _) | (with_reducible refine Kd.C_drew ?_))); (case side2 => exact HC0.out); (case side3 => repeat (first | exact (Kd.R_reads' HO_6.out).2.2 | (with_reducible refine Kd.C_alloc ?_ _) | (with_reducible refine Kd.C_drewN ?_ _) | (with_reducible refine Kd.C_drew ?_))); (case side4 => rw [show y435.length = x6_12.length from (Kd.R_reads' HO_6.out).1.symm]; exact (Kd.R_reads' HO_6.out).2.1); rintro e w80 ⟨v440, rfl, ho0, hb⟩; refine ⟨_, rfl, ?_⟩; replace HO_6 := Aside0.mk (Kd.R_below aq19 hb); have HO441 := Aside0.mk (Kd.R_lower (Kd.R_newB (Kd.R_new' ho0 (Kd.R_lt (by (with_reducible repeat (first | apply Kd.R_alloc | apply Kd.R_drewN | apply Kd.R_drew)); exact HO438.out))) (g := gb1) (o := .cells #[.int .i64 8, .int .i64 0, .int .i64 0, .int .i64 0, .int .i64 0, .int .i64 0, .int .i64 0] 28 (0, 0)) aq13) (below_size aq7)); replace HO438 := Aside0.mk (Kd.R_elder' (by (with_reducible repeat (first | apply Kd.R_alloc | apply Kd.R_drewN | apply Kd.R_drew)); exact HO438.out) (Kd.R_base ho0) hb); replace BK1 := Aside0.mk (blk_below (g := gb1) (o := .cells #[.int .i64 8, .int .i64 0, .int .i64 0, .int .i64 0, .int .i64 0, .int .i64 0, .int .i64 0] 28 (0, 0)) aq13 hb); replace HB := Aside0.mk (below_step aq7 hb); (try clear hb); (try clear hb2); (try clear hk); (try clear hi); (try clear ho0); obtain ⟨Ao81, co81, eo81⟩ := Kd.R_slice HO438.out; subst eo81; obtain ⟨Ao82, co82, eo82⟩ := Kd.R_slice HO441.out; subst eo82) | ((with_reducible refine gate_callee (f := 12) rfl ?_); refine goesL_ (some 82) rfl rfl Tryd.func12 (by kernel_rfl) rfl #[.slice Ao81 t436.length co81, .slice Ao82 t439.length co82] rfl aq4 ?_; (with_reducible refine (palingref13_Same.calls kj22 _ _ t436 _ _ t439 t442 _ ?side1 ?side2 ?side3 ?side4 A75.out).mono ?_); (case side1 => repeat (first | exact (Kd.R_reads' HO438.out).2.2 | (with_reducible refine Kd.C_alloc ?_ _) | (with_reducible refine Kd.C_drewN ?_ _) | (with_reducible refine Kd.C_drew ?_))); (case side2 => exact (Kd.R_reads' HO438.out).2.1); (case side3 => repeat (first | exact (Kd.R_reads' HO441.out).2.2 | (with_reducible refine Kd.C_alloc ?_ _) | (with_reducible refine Kd.C_drewN ?_ _) | (with_reducible refine Kd.C_drew ?_))); (case side4 => exact (Kd.R_reads' HO441.out).2.1); rintro e w' ⟨rfl, ⟨nd, rfl⟩⟩; refine ⟨_, rfl, ?_⟩))
       go_ret
       exact ⟨by first | rfl | (simp [errW_none, errW_some] <;> rfl) | (simp only [← hji69]; first | rfl | (simp [errW_none, errW_some] <;> rfl)) | (simp [*, errW_none, errW_some] <;> rfl), aq7⟩
end Go.Proofs.YtdopacgaklaaeaaDoor.PDeadTells
