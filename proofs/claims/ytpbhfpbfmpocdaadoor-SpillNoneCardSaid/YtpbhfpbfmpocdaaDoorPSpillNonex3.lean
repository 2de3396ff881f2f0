-- Written by print2.py over the kit's printer. Not trusted: Lean checks it.
import Derived.Test.YtpbhfpbfmpocdaaDoorPSpillNonehqq
import Derived.Test.YtpbhfpbfmpocdaaDoorPSpillNonehmid
import Derived.Test.YtpbhfpbfmpocdaaDoorPSpillNonex0
import Derived.Test.YtpbhfpbfmpocdaaDoorPSpillNonex1
import Derived.Test.YtpbhfpbfmpocdaaDoorPSpillNonex2
import Derived.Test.YtpbhfpbfmpocdaaDoorPSpillNonehplaces
import Derived.Test.YtpbhfpbfmpocdaaDoorPSpillNonehspillslots
namespace Go.Proofs.YtpbhfpbfmpocdaaDoor.PSpillNone
open Go.RowKit Go.Proofs.YtpbhfpbfmpocdaaDoorW.PrintWords Go.Proofs.YtpbhfpbfmpocdaaDoorW.PrintLast Go.Proofs.YtpbhfpbfmpocdaaDoorW.PrintMore
attribute [local go_sem] max2_int min2_int max_two min_two max_three min_three max_four min_four   -- for this text's walks alone
set_option linter.unusedVariables false
set_option linter.unusedSimpArgs false

attribute [local go_sem high] eqA48
/-! ### spill_Word: function 12 -/
def spill_Word.j0 : Nat → List (S45) → List Int → Int → Int → Bool → Int → Int → Option (Int)
  | 0, _, _, _, _, _, _, _ => none
  | k + 1, x0, x1, x3, x9, x24, x109000, x109001 => if x24 = true then (some (-1)) else (if 0 ≤ x9 then (if x9 ≤ (x0.length : Int) then ((spill_Slots.f k (x0.take (x9 : Int).toNat) x1).bind fun bt115 => ((slices_Contains_int_int.f k x1 x3).bind fun t117 => (if t117 = true then (some (wrap64 (x109001 + bt115.2))) else (some (wrap64 (x109000 + bt115.1)))))) else (none)) else (none))
def spill_Word.f (k : Nat) (l0 : List (S45)) (l1 : List Int) (a2_0 : Int) (a2_1 : Int) (a3 : Int) : Option (Int) := (spill_find.f l0 a3).bind fun t109 => (if t109 < 0 then (spill_Word.j0 k l0 l1 a3 t109 true a2_0 a2_1) else (if 0 ≤ t109 then (if t109 < (l0.length : Int) then (spill_Word.j0 k l0 l1 a3 t109 (decide (((rd_T45 l0 t109).f1) ≥ 0)) a2_0 a2_1) else (none)) else (none)))
theorem spill_Word.mono_l : ∀ k, (∀ y0 y1 y2 y3 y4 y5 y6, LeO (spill_Word.j0 k y0 y1 y2 y3 y4 y5 y6) (spill_Word.j0 (k + 1) y0 y1 y2 y3 y4 y5 y6))
  | 0 => fun _ _ _ _ _ _ _ r h => by simp [spill_Word.j0] at h
  | k + 1 => by
    have ih0 := spill_Word.mono_l k
    intros <;> unfold spill_Word.j0 <;> repeat' (first | (with_reducible first | exact ih0 _ _ _ _ _ _ _ | exact slices_Contains_int_int.mono _ _ _ | exact spill_Slots.mono _ _ _ | exact LeO.refl _ | exact LeO.none _ | refine LeO.ite ?_ ?_ | refine LeO.bind ?_ (fun _ => ?_)) | exact ih0 _ _ _ _ _ _ _ | exact slices_Contains_int_int.mono _ _ _ | exact spill_Slots.mono _ _ _ | exact LeO.none _ | refine LeO.ite ?_ ?_ | refine LeO.bind ?_ (fun _ => ?_))
theorem spill_Word.mono : ∀ a0 a1 a2 a3 a4 k, LeO (spill_Word.f k a0 a1 a2 a3 a4) (spill_Word.f (k + 1) a0 a1 a2 a3 a4) := by
 intro a0 a1 a2 a3 a4 k
 have ih0 := spill_Word.mono_l k
 unfold spill_Word.f
 repeat' (first | (with_reducible first | exact ih0 _ _ _ _ _ _ _ | exact slices_Contains_int_int.mono _ _ _ | exact spill_Slots.mono _ _ _ | exact LeO.refl _ | exact LeO.none _ | refine LeO.ite ?_ ?_ | refine LeO.bind ?_ (fun _ => ?_)) | exact ih0 _ _ _ _ _ _ _ | exact slices_Contains_int_int.mono _ _ _ | exact spill_Slots.mono _ _ _ | exact LeO.none _ | refine LeO.ite ?_ ?_ | refine LeO.bind ?_ (fun _ => ?_))
set_option maxHeartbeats 8000000 in
set_option maxRecDepth 100000 in
theorem spill_Word.calls (k : Nat) (A0 : Option Addr) (c0 : Nat) (l0 : List (S45)) (A1 : Option Addr) (c1 : Nat) (l1 : List Int) (a2_0 : Int) (a2_1 : Int) (a3 : Int) (r : Int) (w : World) (hr0 : Kd.C k45 w A0 l0.length l0) (hc0 : l0.length ≤ c0) (hr1 : Kd.C (Kd.int .i64) w A1 l1.length l1) (hc1 : l1.length ≤ c1) (h : spill_Word.f k l0 l1 a2_0 a2_1 a3 = some r) :
    Calls Tryd.prog 12 #[.slice A0 l0.length c0, .slice A1 l1.length c1, .agg #[.int .i64 a2_0, .int .i64 a2_1], .int .i64 a3] w fun e w' => e = .returned (.int .i64 r) ∧ Below w.heap.size w w' := by
 have hu31 := Tryd.underlying31
 have HR0 := Aside0.mk hr0
 have HC0 := Aside0.mk hc0
 clear hr0 hc0
 have HR1 := Aside0.mk hr1
 have HC1 := Aside0.mk hc1
 clear hr1 hc1
 have HB := Aside0.mk (Below.refl w.heap.size w)
 have H : ((spill_find.f l0 a3).bind fun t109 => (if t109 < 0 then (spill_Word.j0 k l0 l1 a3 t109 true a2_0 a2_1) else (if 0 ≤ t109 then (if t109 < (l0.length : Int) then (spill_Word.j0 k l0 l1 a3 t109 (decide (((rd_T45 l0 t109).f1) ≥ 0)) a2_0 a2_1) else (none)) else (none)))) = some r := h
 clear h
 obtain ⟨t109, A5, H⟩ := bS_ H
 have HC6 := Aside0.mk H
 clear H
 go_enter Tryd.func12, Tryd.ntmps12
 go_upto_region 2 with (first | ((with_reducible refine gate_dst (N := 6) rfl ?_); refine box_event ?hg (N := 6) ?hd (cs := #[.int .i64 a2_0, .int .i64 a2_1]) (t := 31) ?hr ?_; (case hd => rfl); (case hg => rfl); (case hr => first | (go_simp; done) | (go_simp; rfl)); intro gb0 hg w7 hbox hb; have BK0 := Aside0.mk (hbox); have GW0 := Aside0.mk ((by rw [hg]; exact (below_size aq0) : w.heap.size ≤ gb0)); have GE0 := Aside0.mk ((by rw [hg]; exact (below_size aq0) : w.heap.size ≤ gb0)); replace HB := Aside0.mk (below_step aq0 hb); clear hb hbox hg) | ((with_reducible refine gate_callee (f := 25) rfl ?_); refine goesL_ (some 14) rfl rfl Tryd.func25 (by kernel_rfl) rfl #[.slice A0 l0.length c0, .int .i64 a3] rfl aq8 ?_; (with_reducible refine (spill_find.calls _ _ l0 a3 t109 _ ?side1 ?side2 A5.out).mono ?_); (case side1 => repeat (first | exact (Kd.C_below HR0.out HB.out) | (with_reducible refine Kd.C_alloc ?_ _) | (with_reducible refine Kd.C_drewN ?_ _) | (with_reducible refine Kd.C_drew ?_))); (case side2 => exact HC0.out); rintro e w8 ⟨rfl, hb⟩; refine ⟨_, rfl, ?_⟩; replace BK0 := Aside0.mk (blk_below (g := gb0) (o := .cells #[.int .i64 a2_0, .int .i64 a2_1] 31 (0, 0)) aq11 hb); replace HB := Aside0.mk (below_step aq4 hb); (try clear hb); (try clear hb2); (try clear hk); (try clear hi)))
 (try simp only [Act.put, List.setIfInBounds_toArray, List.set_cons_zero, List.set_cons_succ])
 go_cut [24] (fun v24 wc => ∃ (kq : Nat) (x24_5 : Bool), v24 = .bool x24_5 ∧ Aside0 (spill_Word.j0 kq l0 l1 a3 t109 x24_5 a2_0 a2_1 = some r) ∧ Aside0 (kq ≤ k) ∧ Aside0 (wc.heap[gb0]? = some (.cells #[.int .i64 a2_0, .int .i64 a2_1] 31 (0, 0))) ∧ Aside0 (Below w.heap.size w wc))
 case first =>
  have H := HC6.out
  clear HC6
  by_cases c9 : t109 < 0
  ·rw [if_pos c9] at H
   have c9b0 : decide (t109 < 0) = true := decide_eq_true c9
   clear c9
   (first | rw [c9b0] | (simp only [i64_w, i32_w]; rw [c9b0]) | skip)
   have H' := Aside0.mk H
   clear H
   go_wp2
   go_meet
   case rel => exact ⟨_, (true), aq7, H', ⟨aq50⟩, ⟨aq11⟩, ⟨aq4⟩⟩
  rw [if_neg c9] at H
  have c9b0 : decide (t109 < 0) = false := decide_eq_false c9
  clear c9
  (first | rw [c9b0] | (simp only [i64_w, i32_w]; rw [c9b0]) | skip)
  by_cases c10 : 0 ≤ t109
  rotate_left
  ·rw [if_neg c10] at H
   exact absurd H (by simp)
  rw [if_pos c10] at H
  have c10b0 : decide (0 ≤ t109) = true := decide_eq_true c10
  clear c10
  by_cases c11 : t109 < (l0.length : Int)
  rotate_left
  ·rw [if_neg c11] at H
   exact absurd H (by simp)
  rw [if_pos c11] at H
  have c11b0 : decide (t109 < (l0.length : Int)) = true := decide_eq_true c11
  clear c11
  have H' := Aside0.mk H
  clear H
  have p110 : 0 ≤ (t109 : Int) := of_decide_eq_true aq2
  have q110 : t109 < (l0.length : Int) := of_decide_eq_true aq2
  obtain ⟨ad110, e110, hx110_0, hx110_1⟩ := at_T45 HR0.out t109 p110 q110
  cases e110
  replace hx110_0 := (HB.out.cell (World.block_lt_of_cell? w _ hx110_0)).trans hx110_0
  replace hx110_1 := (HB.out.cell (World.block_lt_of_cell? w _ hx110_1)).trans hx110_1
  replace p110 := eq_true p110
  replace q110 := eq_true q110
  go_wp2
  go_meet
  case rel => exact ⟨_, (decide (((rd_T45 l0 t109).f1) ≥ 0)), aq7, H', ⟨aq50⟩, ⟨aq11⟩, ⟨aq4⟩⟩
 case rest =>
  clear HC6
  obtain ⟨kq, x24_5, rfl, HA, HJ5, BK0, HB⟩ := hcut
  cases kq with
  | zero => exact absurd HA.out (by simp [spill_Word.j0])
  | succ kj5 =>
   have H := HA.out
   clear HA
   simp only [spill_Word.j0] at H
   by_cases c12 : x24_5 = true
   ·subst c12
    rw [if_pos rfl] at H
    obtain rfl := Option.some.inj H
    go_wp2
    go_ret
    exact ⟨aq13, aq4⟩
   replace c12 := Bool.eq_false_iff.mpr c12
   subst c12
   rw [if_neg nf_] at H
   by_cases c13 : 0 ≤ t109
   rotate_left
   ·rw [if_neg c13] at H
    exact absurd H (by simp)
   rw [if_pos c13] at H
   have c13b0 := eq_true c13
   have c13b1 : decide (0 ≤ t109) = true := decide_eq_true c13
   clear c13
   by_cases c14 : t109 ≤ (l0.length : Int)
   rotate_left
   ·rw [if_neg c14] at H
    exact absurd H (by simp)
   rw [if_pos c14] at H
   have c14b0 := eq_true c14
   have c14b1 : decide (t109 ≤ (l0.length : Int)) = true := decide_eq_true c14
   clear c14
   obtain ⟨y111, hy_⟩ : ∃ y_ : List (S45), y_ = (l0.take (t109 : Int).toNat) := ⟨_, rfl⟩
   replace H : ((spill_Slots.f kj5 y111 l1).bind fun bt115 => ((slices_Contains_int_int.f kj5 l1 a3).bind fun t117 => (if t117 = true then (some (wrap64 (a2_1 + bt115.2))) else (some (wrap64 (a2_0 + bt115.1)))))) = some r := aq3
   have Ny111 := Aside0.mk hy_
   clear hy_
   replace H := Option.bind_eq_some_iff.mp H
   obtain ⟨⟨t115, t116⟩, A150, H⟩ := H
   replace H : ((slices_Contains_int_int.f kj5 l1 a3).bind fun t117 => (if t117 = true then (some (wrap64 (a2_1 + t116))) else (some (wrap64 (a2_0 + t115))))) = some r := H
   have A15 := Aside0.mk A150
   clear A150
   obtain ⟨t117, A16, H⟩ := bS_ H
   by_cases c17 : t117 = true
   ·subst c17
    rw [if_pos rfl] at H
    obtain rfl := Option.some.inj H
    have q18 : (t109 : Int) ≤ ((l0.length : Int) : Int) := of_decide_eq_true aq2
    obtain ⟨i018, hi018, _, hsz18, _⟩ := info_parts info45
    have hroom18 : l0.length ≤ c0 := HC0.out
    have hC18 : Kd.C k45 _ A0 l0.length l0 := HR0.out
    have hcut18 := cut_to (P := Tryd.prog) 28 45 .i64 Tryd.underlying28 hi018 A0 l0.length c0 t109 (of_decide_eq_true aq2) q18 hroom18
    have hr18 := Kd.C_take (m := (t109 : Int).toNat) hC18 (by omega)
    have hy18 : y111.length = (t109 : Int).toNat := (by rw [Ny111.out, List.length_take]; omega)
    rw [← Ny111.out] at hr18
    rw [← hy18] at hcut18
    have HR114 := Aside0.mk hr18
    have HC114 := Aside0.mk (show y111.length ≤ c0 from by omega)
    clear hr18 hC18 hroom18 hi018 hsz18
    have KY18 := Aside0.mk hy18
    clear hy18
    replace q18 := eq_true q18
    go_wp2_with (first | ((with_reducible refine gate_callee (f := 10) rfl ?_); refine goesL_ (some 30) rfl rfl Tryd.func10 (by kernel_rfl) rfl #[.slice A0 y111.length c0, .slice A1 l1.length c1] rfl aq8 ?_; (with_reducible refine (spill_Slots.calls kj5 _ _ y111 _ _ l1 t115 t116 _ ?side1 ?side2 ?side3 ?side4 A15.out).mono ?_); (case side1 => repeat (first | exact (Kd.C_below HR114.out HB.out) | (with_reducible refine Kd.C_alloc ?_ _) | (with_reducible refine Kd.C_drewN ?_ _) | (with_reducible refine Kd.C_drew ?_))); (case side2 => exact HC114.out); (case side3 => repeat (first | exact (Kd.C_below HR1.out HB.out) | (with_reducible refine Kd.C_alloc ?_ _) | (with_reducible refine Kd.C_drewN ?_ _) | (with_reducible refine Kd.C_drew ?_))); (case side4 => exact HC1.out); rintro e w19 ⟨rfl, hb⟩; refine ⟨_, rfl, ?_⟩; replace BK0 := Aside0.mk (blk_below (g := gb0) (o := .cells #[.int .i64 a2_0, .int .i64 a2_1] 31 (0, 0)) aq11 hb); replace HB := Aside0.mk (below_step aq4 hb); (try clear hb); (try clear hb2); (try clear hk); (try clear hi)) | ((with_reducible refine gate_callee (f := 23) rfl ?_); refine goesL_ (some 35) rfl rfl Tryd.func23 (by kernel_rfl) rfl #[.slice A1 l1.length c1, .int .i64 a3] rfl aq8 ?_; (with_reducible refine (slices_Contains_int_int.calls kj5 _ _ l1 a3 true _ ?side1 ?side2 A16.out).mono ?_); (case side1 => repeat (first | exact (Kd.C_below HR1.out HB.out) | (with_reducible refine Kd.C_alloc ?_ _) | (with_reducible refine Kd.C_drewN ?_ _) | (with_reducible refine Kd.C_drew ?_))); (case side2 => exact HC1.out); rintro e w' ⟨rfl, ⟨nd, rfl⟩⟩; refine ⟨_, rfl, ?_⟩; obtain ⟨hcz20_0, hcz20_1, hfz20_0, hfz20_1⟩ := czf2 BK0.out))
    go_ret
    exact ⟨aq13, aq4⟩
   replace c17 := Bool.eq_false_iff.mpr c17
   subst c17
   rw [if_neg nf_] at H
   obtain rfl := Option.some.inj H
   have q21 : (t109 : Int) ≤ ((l0.length : Int) : Int) := of_decide_eq_true aq2
   obtain ⟨i021, hi021, _, hsz21, _⟩ := info_parts info45
   have hroom21 : l0.length ≤ c0 := HC0.out
   have hC21 : Kd.C k45 _ A0 l0.length l0 := HR0.out
   have hcut21 := cut_to (P := Tryd.prog) 28 45 .i64 Tryd.underlying28 hi021 A0 l0.length c0 t109 (of_decide_eq_true aq2) q21 hroom21
   have hr21 := Kd.C_take (m := (t109 : Int).toNat) hC21 (by omega)
   have hy21 : y111.length = (t109 : Int).toNat := (by rw [Ny111.out, List.length_take]; omega)
   rw [← Ny111.out] at hr21
   rw [← hy21] at hcut21
   have HR114 := Aside0.mk hr21
   have HC114 := Aside0.mk (show y111.length ≤ c0 from by omega)
   clear hr21 hC21 hroom21 hi021 hsz21
   have KY21 := Aside0.mk hy21
   clear hy21
   replace q21 := eq_true q21
   go_wp2_with (first | ((with_reducible refine gate_callee (f := 10) rfl ?_); refine goesL_ (some 30) rfl rfl Tryd.func10 (by kernel_rfl) rfl #[.slice A0 y111.length c0, .slice A1 l1.length c1] rfl aq8 ?_; (with_reducible refine (spill_Slots.calls kj5 _ _ y111 _ _ l1 t115 t116 _ ?side1 ?side2 ?side3 ?side4 A15.out).mono ?_); (case side1 => repeat (first | exact (Kd.C_below HR114.out HB.out) | (with_reducible refine Kd.C_alloc ?_ _) | (with_reducible refine Kd.C_drewN ?_ _) | (with_reducible refine Kd.C_drew ?_))); (case side2 => exact HC114.out); (case side3 => repeat (first | exact (Kd.C_below HR1.out HB.out) | (with_reducible refine Kd.C_alloc ?_ _) | (with_reducible refine Kd.C_drewN ?_ _) | (with_reducible refine Kd.C_drew ?_))); (case side4 => exact HC1.out); rintro e w22 ⟨rfl, hb⟩; refine ⟨_, rfl, ?_⟩; replace BK0 := Aside0.mk (blk_below (g := gb0) (o := .cells #[.int .i64 a2_0, .int .i64 a2_1] 31 (0, 0)) aq11 hb); replace HB := Aside0.mk (below_step aq4 hb); (try clear hb); (try clear hb2); (try clear hk); (try clear hi)) | ((with_reducible refine gate_callee (f := 23) rfl ?_); refine goesL_ (some 35) rfl rfl Tryd.func23 (by kernel_rfl) rfl #[.slice A1 l1.length c1, .int .i64 a3] rfl aq8 ?_; (with_reducible refine (slices_Contains_int_int.calls kj5 _ _ l1 a3 false _ ?side1 ?side2 A16.out).mono ?_); (case side1 => repeat (first | exact (Kd.C_below HR1.out HB.out) | (with_reducible refine Kd.C_alloc ?_ _) | (with_reducible refine Kd.C_drewN ?_ _) | (with_reducible refine Kd.C_drew ?_))); (case side2 => exact HC1.out); rintro e w' ⟨rfl, ⟨nd, rfl⟩⟩; refine ⟨_, rfl, ?_⟩; obtain ⟨hcz23_0, hcz23_1, hfz23_0, hfz23_1⟩ := czf2 BK0.out))
   go_ret
   exact ⟨aq13, aq4⟩
/-! ### palingref13_Same: function 14 -/
def palingref13_Same.l0 : Nat → List (S48) → List (S48) → Int → Option (Bool)
  | 0, _, _, _ => none
  | k + 1, x0, x1, x5 => if x5 < (x0.length : Int) then (if 0 ≤ x5 then (if x5 < (x1.length : Int) then (if (!(((rd_T48 x0 x5).f0) == ((rd_T48 x1 x5).f0)) || (!(((rd_T48 x0 x5).f1) == ((rd_T48 x1 x5).f1)) || (!(((rd_T48 x0 x5).f2) == ((rd_T48 x1 x5).f2)) || (!(((rd_T48 x0 x5).f3) == ((rd_T48 x1 x5).f3)) || (!(((rd_T48 x0 x5).f4) == ((rd_T48 x1 x5).f4)) || (!(((rd_T48 x0 x5).f5) == ((rd_T48 x1 x5).f5)) || (!(((rd_T48 x0 x5).f6) == ((rd_T48 x1 x5).f6))))))))) = true then (some false) else (palingref13_Same.l0 k x0 x1 (wrap64 (x5 + 1)))) else (none)) else (none)) else (some true)
def palingref13_Same.f (k : Nat) (l0 : List (S48)) (l1 : List (S48)) : Option (Bool) := if (l0.length : Int) = (l1.length : Int) then (palingref13_Same.l0 k l0 l1 0) else (none)
theorem palingref13_Same.mono_l : ∀ k, (∀ y0 y1 y2, LeO (palingref13_Same.l0 k y0 y1 y2) (palingref13_Same.l0 (k + 1) y0 y1 y2))
  | 0 => fun _ _ _ r h => by simp [palingref13_Same.l0] at h
  | k + 1 => by
    have ih0 := palingref13_Same.mono_l k
    intros <;> unfold palingref13_Same.l0 <;> repeat' (first | (with_reducible first | exact ih0 _ _ _ | exact LeO.refl _ | exact LeO.none _ | refine LeO.ite ?_ ?_ | refine LeO.bind ?_ (fun _ => ?_)) | exact ih0 _ _ _ | exact LeO.none _ | refine LeO.ite ?_ ?_ | refine LeO.bind ?_ (fun _ => ?_))
theorem palingref13_Same.mono : ∀ a0 a1 k, LeO (palingref13_Same.f k a0 a1) (palingref13_Same.f (k + 1) a0 a1) := by
 intro a0 a1 k
 have ih0 := palingref13_Same.mono_l k
 unfold palingref13_Same.f
 repeat' (first | (with_reducible first | exact ih0 _ _ _ | exact LeO.refl _ | exact LeO.none _ | refine LeO.ite ?_ ?_ | refine LeO.bind ?_ (fun _ => ?_)) | exact ih0 _ _ _ | exact LeO.none _ | refine LeO.ite ?_ ?_ | refine LeO.bind ?_ (fun _ => ?_))
set_option maxHeartbeats 8000000 in
set_option maxRecDepth 100000 in
theorem palingref13_Same.calls (k : Nat) (A0 : Option Addr) (c0 : Nat) (l0 : List (S48)) (A1 : Option Addr) (c1 : Nat) (l1 : List (S48)) (r : Bool) (w : World) (hr0 : Kd.C k48 w A0 l0.length l0) (hc0 : l0.length ≤ c0) (hr1 : Kd.C k48 w A1 l1.length l1) (hc1 : l1.length ≤ c1) (h : palingref13_Same.f k l0 l1 = some r) :
    Calls Tryd.prog 14 #[.slice A0 l0.length c0, .slice A1 l1.length c1] w fun e w' => e = .returned (.bool r) ∧ Drawn0 w w' := by
 have hu48 := Tryd.underlying48
 have HR0 := Aside0.mk hr0
 have HC0 := Aside0.mk hc0
 clear hr0 hc0
 have HR1 := Aside0.mk hr1
 have HC1 := Aside0.mk hc1
 clear hr1 hc1
 have H : (if (l0.length : Int) = (l1.length : Int) then (palingref13_Same.l0 k l0 l1 0) else (none)) = some r := h
 clear h
 by_cases c3 : (l0.length : Int) = (l1.length : Int)
 rotate_left
 ·rw [if_neg c3] at H
  have c3b0 : ((l0.length : Int) == (l1.length : Int)) = false := beq_eq_false_iff_ne.mpr c3
  have c3b1 : ((l0.length : Int) != (l1.length : Int)) = true := bne_iff_ne.mpr c3
  have c3b2 : (l0.length == l1.length) = false := by first | simpa using c3 | (simp at c3 ⊢; omega)
  exact absurd H (by simp)
 rw [if_pos c3] at H
 have c3b0 : ((l0.length : Int) == (l1.length : Int)) = true := beq_iff_eq.mpr c3
 have c3b1 : ((l0.length : Int) != (l1.length : Int)) = false := bne_eq_false_iff_eq.mpr c3
 have c3b2 : (l0.length == l1.length) = true := by first | simpa using c3 | (simp at c3 ⊢; omega)
 clear c3
 have H' := Aside0.mk H
 clear H
 go_enter Tryd.func14, Tryd.ntmps14
 go_wp2
 repeat (go_quiet (fail); try go_wp2)
 go_loopg [5] k (fun kq v5 w' => ∃ (x5_1 : Int), v5 = .int .i64 x5_1 ∧ Aside0 (palingref13_Same.l0 kq l0 l1 x5_1 = some r) ∧ Aside0 (kq ≤ k) ∧ Drawn0 w w')
 case atStart => exact ⟨(0), aq7, H', ⟨Nat.le_refl _⟩, aq16⟩
 case round =>
  clear H'
  obtain ⟨x5_1, rfl, HA, HK1, ⟨m1, rfl⟩⟩ := hrel
  cases gk with
  | zero => exact absurd HA.out (by simp [palingref13_Same.l0])
  | succ k1 =>
   have H := HA.out
   clear HA
   simp only [palingref13_Same.l0] at H
   by_cases c4 : x5_1 < (l0.length : Int)
   rotate_left
   ·rw [if_neg c4] at H
    have c4b0 : decide (x5_1 < (l0.length : Int)) = false := decide_eq_false c4
    clear c4
    obtain rfl := Option.some.inj H
    go_wp2
    repeat (go_quiet (fail); try go_wp2)
    go_ret
    exact ⟨aq7, aq16⟩
   rw [if_pos c4] at H
   have c4b0 : decide (x5_1 < (l0.length : Int)) = true := decide_eq_true c4
   clear c4
   by_cases c5 : 0 ≤ x5_1
   rotate_left
   ·rw [if_neg c5] at H
    exact absurd H (by simp)
   rw [if_pos c5] at H
   have c5b0 : decide (0 ≤ x5_1) = true := decide_eq_true c5
   clear c5
   by_cases c6 : x5_1 < (l1.length : Int)
   rotate_left
   ·rw [if_neg c6] at H
    exact absurd H (by simp)
   rw [if_pos c6] at H
   have c6b0 : decide (x5_1 < (l1.length : Int)) = true := decide_eq_true c6
   clear c6
   by_cases c7 : (!(((rd_T48 l0 x5_1).f0) == ((rd_T48 l1 x5_1).f0)) || (!(((rd_T48 l0 x5_1).f1) == ((rd_T48 l1 x5_1).f1)) || (!(((rd_T48 l0 x5_1).f2) == ((rd_T48 l1 x5_1).f2)) || (!(((rd_T48 l0 x5_1).f3) == ((rd_T48 l1 x5_1).f3)) || (!(((rd_T48 l0 x5_1).f4) == ((rd_T48 l1 x5_1).f4)) || (!(((rd_T48 l0 x5_1).f5) == ((rd_T48 l1 x5_1).f5)) || (!(((rd_T48 l0 x5_1).f6) == ((rd_T48 l1 x5_1).f6))))))))) = true
   ·rw [if_pos c7] at H
    have c7b0 : (!(((rd_T48 l0 x5_1).f0) == ((rd_T48 l1 x5_1).f0)) || (!(((rd_T48 l0 x5_1).f1) == ((rd_T48 l1 x5_1).f1)) || (!(((rd_T48 l0 x5_1).f2) == ((rd_T48 l1 x5_1).f2)) || (!(((rd_T48 l0 x5_1).f3) == ((rd_T48 l1 x5_1).f3)) || (!(((rd_T48 l0 x5_1).f4) == ((rd_T48 l1 x5_1).f4)) || (!(((rd_T48 l0 x5_1).f5) == ((rd_T48 l1 x5_1).f5)) || (!(((rd_T48 l0 x5_1).f6) == ((rd_T48 l1 x5_1).f6))))))))) = true := c7
    clear c7
    obtain rfl := Option.some.inj H
    have p118 : 0 ≤ (x5_1 : Int) := of_decide_eq_true aq2
    have q118 : x5_1 < (l0.length : Int) := of_decide_eq_true aq2
    obtain ⟨ad118, e118, hx118_0, hx118_1, hx118_2, hx118_3, hx118_4, hx118_5, hx118_6⟩ := at_T48 HR0.out x5_1 p118 q118
    cases e118
    replace p118 := eq_true p118
    replace q118 := eq_true q118
    have p119 : 0 ≤ (x5_1 : Int) := of_decide_eq_true aq2
    have q119 : x5_1 < (l1.length : Int) := of_decide_eq_true aq2
    obtain ⟨ad119, e119, hx119_0, hx119_1, hx119_2, hx119_3, hx119_4, hx119_5, hx119_6⟩ := at_T48 HR1.out x5_1 p119 q119
    cases e119
    replace p119 := eq_true p119
    replace q119 := eq_true q119
    go_wp2
    repeat (go_quiet (fail); try go_wp2)
    go_ret
    exact ⟨aq7, aq16⟩
   rw [if_neg c7] at H
   have c7b0 : (!(((rd_T48 l0 x5_1).f0) == ((rd_T48 l1 x5_1).f0)) || (!(((rd_T48 l0 x5_1).f1) == ((rd_T48 l1 x5_1).f1)) || (!(((rd_T48 l0 x5_1).f2) == ((rd_T48 l1 x5_1).f2)) || (!(((rd_T48 l0 x5_1).f3) == ((rd_T48 l1 x5_1).f3)) || (!(((rd_T48 l0 x5_1).f4) == ((rd_T48 l1 x5_1).f4)) || (!(((rd_T48 l0 x5_1).f5) == ((rd_T48 l1 x5_1).f5)) || (!(((rd_T48 l0 x5_1).f6) == ((rd_T48 l1 x5_1).f6))))))))) = false := by simpa using c7
   clear c7
   have H' := Aside0.mk H
   clear H
   have p118 : 0 ≤ (x5_1 : Int) := of_decide_eq_true aq2
   have q118 : x5_1 < (l0.length : Int) := of_decide_eq_true aq2
   obtain ⟨ad118, e118, hx118_0, hx118_1, hx118_2, hx118_3, hx118_4, hx118_5, hx118_6⟩ := at_T48 HR0.out x5_1 p118 q118
   cases e118
   replace p118 := eq_true p118
   replace q118 := eq_true q118
   have p119 : 0 ≤ (x5_1 : Int) := of_decide_eq_true aq2
   have q119 : x5_1 < (l1.length : Int) := of_decide_eq_true aq2
   obtain ⟨ad119, e119, hx119_0, hx119_1, hx119_2, hx119_3, hx119_4, hx119_5, hx119_6⟩ := at_T48 HR1.out x5_1 p119 q119
   cases e119
   replace p119 := eq_true p119
   replace q119 := eq_true q119
   go_wp2
   repeat (go_quiet (fail); try go_wp2)
   go_roundg k1
   case measure => have := HK1.out; omega
   case rel => exact ⟨(wrap64 (x5_1 + 1)), aq7, H', ⟨aq55⟩, aq16⟩
end Go.Proofs.YtpbhfpbfmpocdaaDoor.PSpillNone
