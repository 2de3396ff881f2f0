-- Written by print2.py over the kit's printer. Not trusted: Lean checks it.
import Derived.Test.YtpbhfpbfmpocdaaDoorPSpillTellshqq
import Derived.Test.YtpbhfpbfmpocdaaDoorPSpillTellsx0
import Derived.Test.YtpbhfpbfmpocdaaDoorPSpillTellsx15
namespace Go.Proofs.YtpbhfpbfmpocdaaDoor.PSpillTells
open Go.RowKit Go.Proofs.YtpbhfpbfmpocdaaDoorW.PrintWords Go.Proofs.YtpbhfpbfmpocdaaDoorW.PrintLast Go.Proofs.YtpbhfpbfmpocdaaDoorW.PrintMore
attribute [local go_sem] max2_int min2_int max_two min_two max_three min_three max_four min_four   -- for this text's walks alone
set_option linter.unusedVariables false
set_option linter.unusedSimpArgs false

/-! ### palingref22_Word: function 13 -/
def palingref22_Word.j0 : Nat → List (S57) → List Int → Int → Int → Int → Int → Bool → Option (Int)
  | 0, _, _, _, _, _, _, _ => none
  | k + 1, x0, x1, x2, x3, x4, x11, x26 => if x26 = true then (some (-1)) else (if 0 ≤ x11 then (if x11 ≤ (x0.length : Int) then ((palingref22_Slots.f k (x0.take (x11 : Int).toNat) x1).bind fun bt498 => ((palingref22_has.f k x1 x4).bind fun t500 => (if t500 = true then (some (wrap64 (x3 + bt498.2))) else (some (wrap64 (x2 + bt498.1)))))) else (none)) else (none))
def palingref22_Word.f (k : Nat) (l0 : List (S57)) (l1 : List Int) (a2 : Int) (a3 : Int) (a4 : Int) : Option (Int) := (palingref22_find.f k l0 a4).bind fun t492 => (if t492 < 0 then (palingref22_Word.j0 k l0 l1 a2 a3 a4 t492 true) else (if 0 ≤ t492 then (if t492 < (l0.length : Int) then (palingref22_Word.j0 k l0 l1 a2 a3 a4 t492 (decide (((rd_T57 l0 t492).f1) ≥ 0))) else (none)) else (none)))
theorem palingref22_Word.mono_l : ∀ k, (∀ y0 y1 y2 y3 y4 y5 y6, LeO (palingref22_Word.j0 k y0 y1 y2 y3 y4 y5 y6) (palingref22_Word.j0 (k + 1) y0 y1 y2 y3 y4 y5 y6))
  | 0 => fun _ _ _ _ _ _ _ r h => by simp [palingref22_Word.j0] at h
  | k + 1 => by
    have ih0 := palingref22_Word.mono_l k
    intros <;> unfold palingref22_Word.j0 <;> repeat' (first | (with_reducible first | exact ih0 _ _ _ _ _ _ _ | exact palingref22_Slots.mono _ _ _ | exact palingref22_find.mono _ _ _ | exact palingref22_has.mono _ _ _ | exact LeO.refl _ | exact LeO.none _ | refine LeO.ite ?_ ?_ | refine LeO.bind ?_ (fun _ => ?_)) | exact ih0 _ _ _ _ _ _ _ | exact palingref22_Slots.mono _ _ _ | exact palingref22_find.mono _ _ _ | exact palingref22_has.mono _ _ _ | exact LeO.none _ | refine LeO.ite ?_ ?_ | refine LeO.bind ?_ (fun _ => ?_))
theorem palingref22_Word.mono : ∀ a0 a1 a2 a3 a4 k, LeO (palingref22_Word.f k a0 a1 a2 a3 a4) (palingref22_Word.f (k + 1) a0 a1 a2 a3 a4) := by
 intro a0 a1 a2 a3 a4 k
 have ih0 := palingref22_Word.mono_l k
 unfold palingref22_Word.f
 repeat' (first | (with_reducible first | exact ih0 _ _ _ _ _ _ _ | exact palingref22_Slots.mono _ _ _ | exact palingref22_find.mono _ _ _ | exact palingref22_has.mono _ _ _ | exact LeO.refl _ | exact LeO.none _ | refine LeO.ite ?_ ?_ | refine LeO.bind ?_ (fun _ => ?_)) | exact ih0 _ _ _ _ _ _ _ | exact palingref22_Slots.mono _ _ _ | exact palingref22_find.mono _ _ _ | exact palingref22_has.mono _ _ _ | exact LeO.none _ | refine LeO.ite ?_ ?_ | refine LeO.bind ?_ (fun _ => ?_))
set_option maxHeartbeats 8000000 in
set_option maxRecDepth 100000 in
theorem palingref22_Word.calls (k : Nat) (A0 : Option Addr) (c0 : Nat) (l0 : List (S57)) (A1 : Option Addr) (c1 : Nat) (l1 : List Int) (a2 : Int) (a3 : Int) (a4 : Int) (r : Int) (w : World) (hr0 : Kd.C k57 w A0 l0.length l0) (hc0 : l0.length ≤ c0) (hr1 : Kd.C (Kd.int .i64) w A1 l1.length l1) (hc1 : l1.length ≤ c1) (h : palingref22_Word.f k l0 l1 a2 a3 a4 = some r) :
    Calls Tryd.prog 13 #[.slice A0 l0.length c0, .slice A1 l1.length c1, .int .i64 a2, .int .i64 a3, .int .i64 a4] w fun e w' => e = .returned (.int .i64 r) ∧ Drawn0 w w' := by
 have HR0 := Aside0.mk hr0
 have HC0 := Aside0.mk hc0
 clear hr0 hc0
 have HR1 := Aside0.mk hr1
 have HC1 := Aside0.mk hc1
 clear hr1 hc1
 have H : ((palingref22_find.f k l0 a4).bind fun t492 => (if t492 < 0 then (palingref22_Word.j0 k l0 l1 a2 a3 a4 t492 true) else (if 0 ≤ t492 then (if t492 < (l0.length : Int) then (palingref22_Word.j0 k l0 l1 a2 a3 a4 t492 (decide (((rd_T57 l0 t492).f1) ≥ 0))) else (none)) else (none)))) = some r := h
 clear h
 obtain ⟨t492, A6, H⟩ := bS_ H
 have HC7 := Aside0.mk H
 clear H
 go_enter Tryd.func13, Tryd.ntmps13
 go_upto_region 2 with (first | ((with_reducible refine gate_callee (f := 26) rfl ?_); refine goesL_ (some 16) rfl rfl Tryd.func26 (by kernel_rfl) rfl #[.slice A0 l0.length c0, .int .i64 a4] rfl aq4 ?_; (with_reducible refine (palingref22_find.calls k _ _ l0 a4 t492 _ ?side1 ?side2 A6.out).mono ?_); (case side1 => repeat (first | exact HR0.out | (with_reducible refine Kd.C_alloc ?_ _) | (with_reducible refine Kd.C_drewN ?_ _) | (with_reducible refine Kd.C_drew ?_))); (case side2 => exact HC0.out); rintro e w' ⟨rfl, ⟨nd, rfl⟩⟩; refine ⟨_, rfl, ?_⟩))
 (try simp only [Act.put, List.setIfInBounds_toArray, List.set_cons_zero, List.set_cons_succ])
 go_cut [26] (fun v26 wc => ∃ (kq : Nat) (x26_6 : Bool), v26 = .bool x26_6 ∧ Aside0 (palingref22_Word.j0 kq l0 l1 a2 a3 a4 t492 x26_6 = some r) ∧ Aside0 (kq ≤ k) ∧ Drawn0 w wc)
 case first =>
  have H := HC7.out
  clear HC7
  by_cases c8 : t492 < 0
  ·rw [if_pos c8] at H
   have c8b0 : decide (t492 < 0) = true := decide_eq_true c8
   clear c8
   (first | rw [c8b0] | (simp only [i64_w, i32_w]; rw [c8b0]) | skip)
   have H' := Aside0.mk H
   clear H
   go_wp2
   go_meet
   case rel => exact ⟨_, (true), aq7, H', ⟨aq50⟩, aq15⟩
  rw [if_neg c8] at H
  have c8b0 : decide (t492 < 0) = false := decide_eq_false c8
  clear c8
  (first | rw [c8b0] | (simp only [i64_w, i32_w]; rw [c8b0]) | skip)
  by_cases c9 : 0 ≤ t492
  rotate_left
  ·rw [if_neg c9] at H
   exact absurd H (by simp)
  rw [if_pos c9] at H
  have c9b0 : decide (0 ≤ t492) = true := decide_eq_true c9
  clear c9
  by_cases c10 : t492 < (l0.length : Int)
  rotate_left
  ·rw [if_neg c10] at H
   exact absurd H (by simp)
  rw [if_pos c10] at H
  have c10b0 : decide (t492 < (l0.length : Int)) = true := decide_eq_true c10
  clear c10
  have H' := Aside0.mk H
  clear H
  have p493 : 0 ≤ (t492 : Int) := of_decide_eq_true aq2
  have q493 : t492 < (l0.length : Int) := of_decide_eq_true aq2
  obtain ⟨ad493, e493, hx493_0, hx493_1⟩ := at_T57 HR0.out t492 p493 q493
  cases e493
  replace p493 := eq_true p493
  replace q493 := eq_true q493
  go_wp2
  go_meet
  case rel => exact ⟨_, (decide (((rd_T57 l0 t492).f1) ≥ 0)), aq7, H', ⟨aq50⟩, aq15⟩
 case rest =>
  clear HC7
  obtain ⟨kq, x26_6, rfl, HA, HJ6, ⟨mc6, rfl⟩⟩ := hcut
  cases kq with
  | zero => exact absurd HA.out (by simp [palingref22_Word.j0])
  | succ kj6 =>
   have H := HA.out
   clear HA
   simp only [palingref22_Word.j0] at H
   by_cases c11 : x26_6 = true
   ·subst c11
    rw [if_pos rfl] at H
    obtain rfl := Option.some.inj H
    go_wp2
    go_ret
    exact ⟨aq7, aq15⟩
   replace c11 := Bool.eq_false_iff.mpr c11
   subst c11
   rw [if_neg nf_] at H
   by_cases c12 : 0 ≤ t492
   rotate_left
   ·rw [if_neg c12] at H
    exact absurd H (by simp)
   rw [if_pos c12] at H
   have c12b0 := eq_true c12
   have c12b1 : decide (0 ≤ t492) = true := decide_eq_true c12
   clear c12
   by_cases c13 : t492 ≤ (l0.length : Int)
   rotate_left
   ·rw [if_neg c13] at H
    exact absurd H (by simp)
   rw [if_pos c13] at H
   have c13b0 := eq_true c13
   have c13b1 : decide (t492 ≤ (l0.length : Int)) = true := decide_eq_true c13
   clear c13
   obtain ⟨y494, hy_⟩ : ∃ y_ : List (S57), y_ = (l0.take (t492 : Int).toNat) := ⟨_, rfl⟩
   replace H : ((palingref22_Slots.f kj6 y494 l1).bind fun bt498 => ((palingref22_has.f kj6 l1 a4).bind fun t500 => (if t500 = true then (some (wrap64 (a3 + bt498.2))) else (some (wrap64 (a2 + bt498.1)))))) = some r := aq1
   have Ny494 := Aside0.mk hy_
   clear hy_
   replace H := Option.bind_eq_some_iff.mp H
   obtain ⟨⟨t498, t499⟩, A140, H⟩ := H
   replace H : ((palingref22_has.f kj6 l1 a4).bind fun t500 => (if t500 = true then (some (wrap64 (a3 + t499))) else (some (wrap64 (a2 + t498))))) = some r := H
   have A14 := Aside0.mk A140
   clear A140
   obtain ⟨t500, A15, H⟩ := bS_ H
   by_cases c16 : t500 = true
   ·subst c16
    rw [if_pos rfl] at H
    obtain rfl := Option.some.inj H
    have q17 : (t492 : Int) ≤ ((l0.length : Int) : Int) := of_decide_eq_true aq2
    obtain ⟨i017, hi017, _, hsz17, _⟩ := info_parts info57
    have hroom17 : l0.length ≤ c0 := HC0.out
    have hC17 : Kd.C k57 _ A0 l0.length l0 := HR0.out
    have hcut17 := cut_to (P := Tryd.prog) 26 57 .i64 Tryd.underlying26 hi017 A0 l0.length c0 t492 (of_decide_eq_true aq2) q17 hroom17
    have hr17 := Kd.C_take (m := (t492 : Int).toNat) hC17 (by omega)
    have hy17 : y494.length = (t492 : Int).toNat := (by rw [Ny494.out, List.length_take]; omega)
    rw [← Ny494.out] at hr17
    rw [← hy17] at hcut17
    have HR497 := Aside0.mk hr17
    have HC497 := Aside0.mk (show y494.length ≤ c0 from by omega)
    clear hr17 hC17 hroom17 hi017 hsz17
    have KY17 := Aside0.mk hy17
    clear hy17
    replace q17 := eq_true q17
    go_wp2_with (first | ((with_reducible refine gate_callee (f := 11) rfl ?_); refine goesL_ (some 32) rfl rfl Tryd.func11 (by kernel_rfl) rfl #[.slice A0 y494.length c0, .slice A1 l1.length c1] rfl aq4 ?_; (with_reducible refine (palingref22_Slots.calls kj6 _ _ y494 _ _ l1 t498 t499 _ ?side1 ?side2 ?side3 ?side4 A14.out).mono ?_); (case side1 => repeat (first | exact HR497.out | (with_reducible refine Kd.C_alloc ?_ _) | (with_reducible refine Kd.C_drewN ?_ _) | (with_reducible refine Kd.C_drew ?_))); (case side2 => exact HC497.out); (case side3 => repeat (first | exact HR1.out | (with_reducible refine Kd.C_alloc ?_ _) | (with_reducible refine Kd.C_drewN ?_ _) | (with_reducible refine Kd.C_drew ?_))); (case side4 => exact HC1.out); rintro e w' ⟨rfl, ⟨nd, rfl⟩⟩; refine ⟨_, rfl, ?_⟩) | ((with_reducible refine gate_callee (f := 24) rfl ?_); refine goesL_ (some 37) rfl rfl Tryd.func24 (by kernel_rfl) rfl #[.slice A1 l1.length c1, .int .i64 a4] rfl aq4 ?_; (with_reducible refine (palingref22_has.calls kj6 _ _ l1 a4 true _ ?side1 ?side2 A15.out).mono ?_); (case side1 => repeat (first | exact HR1.out | (with_reducible refine Kd.C_alloc ?_ _) | (with_reducible refine Kd.C_drewN ?_ _) | (with_reducible refine Kd.C_drew ?_))); (case side2 => exact HC1.out); rintro e w' ⟨rfl, ⟨nd, rfl⟩⟩; refine ⟨_, rfl, ?_⟩))
    go_ret
    exact ⟨aq7, aq15⟩
   replace c16 := Bool.eq_false_iff.mpr c16
   subst c16
   rw [if_neg nf_] at H
   obtain rfl := Option.some.inj H
   have q18 : (t492 : Int) ≤ ((l0.length : Int) : Int) := of_decide_eq_true aq2
   obtain ⟨i018, hi018, _, hsz18, _⟩ := info_parts info57
   have hroom18 : l0.length ≤ c0 := HC0.out
   have hC18 : Kd.C k57 _ A0 l0.length l0 := HR0.out
   have hcut18 := cut_to (P := Tryd.prog) 26 57 .i64 Tryd.underlying26 hi018 A0 l0.length c0 t492 (of_decide_eq_true aq2) q18 hroom18
   have hr18 := Kd.C_take (m := (t492 : Int).toNat) hC18 (by omega)
   have hy18 : y494.length = (t492 : Int).toNat := (by rw [Ny494.out, List.length_take]; omega)
   rw [← Ny494.out] at hr18
   rw [← hy18] at hcut18
   have HR497 := Aside0.mk hr18
   have HC497 := Aside0.mk (show y494.length ≤ c0 from by omega)
   clear hr18 hC18 hroom18 hi018 hsz18
   have KY18 := Aside0.mk hy18
   clear hy18
   replace q18 := eq_true q18
   go_wp2_with (first | ((with_reducible refine gate_callee (f := 11) rfl ?_); refine goesL_ (some 32) rfl rfl Tryd.func11 (by kernel_rfl) rfl #[.slice A0 y494.length c0, .slice A1 l1.length c1] rfl aq4 ?_; (with_reducible refine (palingref22_Slots.calls kj6 _ _ y494 _ _ l1 t498 t499 _ ?side1 ?side2 ?side3 ?side4 A14.out).mono ?_); (case side1 => repeat (first | exact HR497.out | (with_reducible refine Kd.C_alloc ?_ _) | (with_reducible refine Kd.C_drewN ?_ _) | (with_reducible refine Kd.C_drew ?_))); (case side2 => exact HC497.out); (case side3 => repeat (first | exact HR1.out | (with_reducible refine Kd.C_alloc ?_ _) | (with_reducible refine Kd.C_drewN ?_ _) | (with_reducible refine Kd.C_drew ?_))); (case side4 => exact HC1.out); rintro e w' ⟨rfl, ⟨nd, rfl⟩⟩; refine ⟨_, rfl, ?_⟩) | ((with_reducible refine gate_callee (f := 24) rfl ?_); refine goesL_ (some 37) rfl rfl Tryd.func24 (by kernel_rfl) rfl #[.slice A1 l1.length c1, .int .i64 a4] rfl aq4 ?_; (with_reducible refine (palingref22_has.calls kj6 _ _ l1 a4 false _ ?side1 ?side2 A15.out).mono ?_); (case side1 => repeat (first | exact HR1.out | (with_reducible refine Kd.C_alloc ?_ _) | (with_reducible refine Kd.C_drewN ?_ _) | (with_reducible refine Kd.C_drew ?_))); (case side2 => exact HC1.out); rintro e w' ⟨rfl, ⟨nd, rfl⟩⟩; refine ⟨_, rfl, ?_⟩))
   go_ret
   exact ⟨aq7, aq15⟩
/-! ### palingref22_word: function 46 -/
def palingref22_word.f (k : Nat) (l0_0 : List (S57)) (l0_1 : List Int) (a0_2 : Int) (a0_3 : Int) (a1 : Int) : Option (Int) := (palingref22_Word.f k l0_0 l0_1 a0_2 a0_3 a1).bind fun t502 => (some t502)
theorem palingref22_word.mono : ∀ a0 a1 a2 a3 a4 k, LeO (palingref22_word.f k a0 a1 a2 a3 a4) (palingref22_word.f (k + 1) a0 a1 a2 a3 a4) := by
 intro a0 a1 a2 a3 a4 k
 unfold palingref22_word.f
 repeat' (first | (with_reducible first | exact palingref22_Word.mono _ _ _ _ _ _ | exact LeO.refl _ | exact LeO.none _ | refine LeO.ite ?_ ?_ | refine LeO.bind ?_ (fun _ => ?_)) | exact palingref22_Word.mono _ _ _ _ _ _ | exact LeO.none _ | refine LeO.ite ?_ ?_ | refine LeO.bind ?_ (fun _ => ?_))
set_option maxHeartbeats 8000000 in
set_option maxRecDepth 100000 in
theorem palingref22_word.calls (k : Nat) (A0_0 : Option Addr) (c0_0 : Nat) (l0_0 : List (S57)) (A0_1 : Option Addr) (c0_1 : Nat) (l0_1 : List Int) (a0_2 : Int) (a0_3 : Int) (a1 : Int) (r : Int) (w : World) (hr0_0 : Kd.C k57 w A0_0 l0_0.length l0_0) (hc0_0 : l0_0.length ≤ c0_0) (hr0_1 : Kd.C (Kd.int .i64) w A0_1 l0_1.length l0_1) (hc0_1 : l0_1.length ≤ c0_1) (h : palingref22_word.f k l0_0 l0_1 a0_2 a0_3 a1 = some r) :
    Calls Tryd.prog 46 #[.agg #[.slice A0_0 l0_0.length c0_0, .slice A0_1 l0_1.length c0_1, .int .i64 a0_2, .int .i64 a0_3], .int .i64 a1] w fun e w' => e = .returned (.int .i64 r) ∧ Below w.heap.size w w' := by
 have hu42 := Tryd.underlying42
 have HR0_0 := Aside0.mk hr0_0
 have HC0_0 := Aside0.mk hc0_0
 clear hr0_0 hc0_0
 have HR0_1 := Aside0.mk hr0_1
 have HC0_1 := Aside0.mk hc0_1
 clear hr0_1 hc0_1
 have HB := Aside0.mk (Below.refl w.heap.size w)
 have H : ((palingref22_Word.f k l0_0 l0_1 a0_2 a0_3 a1).bind fun t502 => (some t502)) = some r := h
 clear h
 obtain ⟨t502, A3, H⟩ := bS_ H
 obtain rfl := Option.some.inj H
 go_enter Tryd.func46, Tryd.ntmps46
 go_wp2_with (first | ((with_reducible refine gate_dst (N := 2) rfl ?_); refine box_event ?hg (N := 2) ?hd (cs := #[.slice A0_0 l0_0.length c0_0, .slice A0_1 l0_1.length c0_1, .int .i64 a0_2, .int .i64 a0_3]) (t := 42) ?hr ?_; (case hd => rfl); (case hg => rfl); (case hr => first | (go_simp; done) | (go_simp; rfl)); intro gb0 hg w4 hbox hb; have BK0 := Aside0.mk (hbox); have GW0 := Aside0.mk ((by rw [hg]; exact (below_size aq0) : w.heap.size ≤ gb0)); have GE0 := Aside0.mk ((by rw [hg]; exact (below_size aq0) : w.heap.size ≤ gb0)); replace HB := Aside0.mk (below_step aq0 hb); clear hb hbox hg; obtain ⟨hcz5_0, hcz5_1, hcz5_2, hcz5_3, hfz5_0, hfz5_1, hfz5_2, hfz5_3⟩ := czf4 BK0.out) | ((with_reducible refine gate_callee (f := 13) rfl ?_); refine goesL_ (some 14) rfl rfl Tryd.func13 (by kernel_rfl) rfl #[.slice A0_0 l0_0.length c0_0, .slice A0_1 l0_1.length c0_1, .int .i64 a0_2, .int .i64 a0_3, .int .i64 a1] rfl aq4 ?_; (with_reducible refine (palingref22_Word.calls k _ _ l0_0 _ _ l0_1 a0_2 a0_3 a1 t502 _ ?side1 ?side2 ?side3 ?side4 A3.out).mono ?_); (case side1 => repeat (first | exact (Kd.C_below HR0_0.out HB.out) | (with_reducible refine Kd.C_alloc ?_ _) | (with_reducible refine Kd.C_drewN ?_ _) | (with_reducible refine Kd.C_drew ?_))); (case side2 => exact HC0_0.out); (case side3 => repeat (first | exact (Kd.C_below HR0_1.out HB.out) | (with_reducible refine Kd.C_alloc ?_ _) | (with_reducible refine Kd.C_drewN ?_ _) | (with_reducible refine Kd.C_drew ?_))); (case side4 => exact HC0_1.out); rintro e w' ⟨rfl, ⟨nd, rfl⟩⟩; refine ⟨_, rfl, ?_⟩))
 go_ret
 exact ⟨aq13, aq3⟩
end Go.Proofs.YtpbhfpbfmpocdaaDoor.PSpillTells
