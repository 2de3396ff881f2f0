-- Written by print2.py over the kit's printer. Not trusted: Lean checks it.
import Derived.Test.YtdopacgaklaaeaaDoorPDeadTellshqq
import Derived.Test.YtdopacgaklaaeaaDoorPDeadTellsx0
import Derived.Test.YtdopacgaklaaeaaDoorPDeadTellsx7
namespace Go.Proofs.YtdopacgaklaaeaaDoor.PDeadTells
open Go.RowKit Go.Proofs.YtdopacgaklaaeaaDoorW.PrintWords Go.Proofs.YtdopacgaklaaeaaDoorW.PrintLast Go.Proofs.YtdopacgaklaaeaaDoorW.PrintMore
attribute [local go_sem] max2_int min2_int max_two min_two max_three min_three max_four min_four   -- for this text's walks alone
set_option linter.unusedVariables false
set_option linter.unusedSimpArgs false

/-! ### palingref11_Next: function 76 -/
mutual
def palingref11_Next.j0 : Nat → Int → Bool → Int → Int → Int → Int → Int → Int → Int → Option (List Int)
  | 0, _, _, _, _, _, _, _, _, _ => none
  | k + 1, x1, x5, x170000, x170001, x170002, x170003, x170004, x170005, x170006 => if x5 = true then (some ([] : List Int)) else (if x170000 = 6 then (some (([x170006] : List Int))) else (if x170000 = 7 then (palingref11_Next.j1 k x1 (decide (x170006 < (wrap64 (x1 + 1)))) x170000 x170001 x170002 x170003 x170004 x170005 x170006) else (palingref11_Next.j1 k x1 false x170000 x170001 x170002 x170003 x170004 x170005 x170006)))
def palingref11_Next.j1 : Nat → Int → Bool → Int → Int → Int → Int → Int → Int → Int → Option (List Int)
  | 0, _, _, _, _, _, _, _, _, _ => none
  | k + 1, x1, x27, x170000, x170001, x170002, x170003, x170004, x170005, x170006 => if x27 = true then (some (([x170006, wrap64 (x1 + 1)] : List Int))) else (if x170000 = 7 then (if x170006 > (wrap64 (x1 + 1)) then (some (([wrap64 (x1 + 1), x170006] : List Int))) else (some (([wrap64 (x1 + 1)] : List Int)))) else (some (([wrap64 (x1 + 1)] : List Int))))
end
def palingref11_Next.f (k : Nat) (a0_0 : Int) (a0_1 : Int) (a0_2 : Int) (a0_3 : Int) (a0_4 : Int) (a0_5 : Int) (a0_6 : Int) (a1 : Int) : Option (List Int) := (palingref11_fields.f a0_0).bind fun t170 => (if t170.toList = ([] : List UInt8) then (palingref11_Next.j0 k a1 true a0_0 a0_1 a0_2 a0_3 a0_4 a0_5 a0_6) else (if a0_0 = 12 then (palingref11_Next.j0 k a1 true a0_0 a0_1 a0_2 a0_3 a0_4 a0_5 a0_6) else (palingref11_Next.j0 k a1 (a0_0 == 13) a0_0 a0_1 a0_2 a0_3 a0_4 a0_5 a0_6)))
theorem palingref11_Next.mono_l : ∀ k, (∀ y0 y1 y2 y3 y4 y5 y6 y7 y8, LeO (palingref11_Next.j0 k y0 y1 y2 y3 y4 y5 y6 y7 y8) (palingref11_Next.j0 (k + 1) y0 y1 y2 y3 y4 y5 y6 y7 y8)) ∧ (∀ y0 y1 y2 y3 y4 y5 y6 y7 y8, LeO (palingref11_Next.j1 k y0 y1 y2 y3 y4 y5 y6 y7 y8) (palingref11_Next.j1 (k + 1) y0 y1 y2 y3 y4 y5 y6 y7 y8))
  | 0 => ⟨fun _ _ _ _ _ _ _ _ _ r h => by simp [palingref11_Next.j0] at h, fun _ _ _ _ _ _ _ _ _ r h => by simp [palingref11_Next.j1] at h⟩
  | k + 1 => by
    obtain ⟨ih0, ih1⟩ := palingref11_Next.mono_l k
    refine ⟨?_, ?_⟩ <;> intros <;> (first | unfold palingref11_Next.j0 | unfold palingref11_Next.j1) <;> repeat' (first | (with_reducible first | exact ih0 _ _ _ _ _ _ _ _ _ | exact ih1 _ _ _ _ _ _ _ _ _ | exact LeO.refl _ | exact LeO.none _ | refine LeO.ite ?_ ?_ | refine LeO.bind ?_ (fun _ => ?_)) | exact ih0 _ _ _ _ _ _ _ _ _ | exact ih1 _ _ _ _ _ _ _ _ _ | exact LeO.none _ | refine LeO.ite ?_ ?_ | refine LeO.bind ?_ (fun _ => ?_))
theorem palingref11_Next.mono : ∀ a0 a1 a2 a3 a4 a5 a6 a7 k, LeO (palingref11_Next.f k a0 a1 a2 a3 a4 a5 a6 a7) (palingref11_Next.f (k + 1) a0 a1 a2 a3 a4 a5 a6 a7) := by
 intro a0 a1 a2 a3 a4 a5 a6 a7 k
 obtain ⟨ih0, ih1⟩ := palingref11_Next.mono_l k
 unfold palingref11_Next.f
 repeat' (first | (with_reducible first | exact ih0 _ _ _ _ _ _ _ _ _ | exact ih1 _ _ _ _ _ _ _ _ _ | exact LeO.refl _ | exact LeO.none _ | refine LeO.ite ?_ ?_ | refine LeO.bind ?_ (fun _ => ?_)) | exact ih0 _ _ _ _ _ _ _ _ _ | exact ih1 _ _ _ _ _ _ _ _ _ | exact LeO.none _ | refine LeO.ite ?_ ?_ | refine LeO.bind ?_ (fun _ => ?_))
set_option maxHeartbeats 8000000 in
set_option maxRecDepth 100000 in
theorem palingref11_Next.calls (k : Nat) (a0_0 : Int) (a0_1 : Int) (a0_2 : Int) (a0_3 : Int) (a0_4 : Int) (a0_5 : Int) (a0_6 : Int) (a1 : Int) (r : List Int) (w : World) (h : palingref11_Next.f k a0_0 a0_1 a0_2 a0_3 a0_4 a0_5 a0_6 a1 = some r) :
    Calls Tryd.prog 76 #[.agg #[.int .i64 a0_0, .int .i64 a0_1, .int .i64 a0_2, .int .i64 a0_3, .int .i64 a0_4, .int .i64 a0_5, .int .i64 a0_6], .int .i64 a1] w fun e w' => ∃ v0_ : Value, e = .returned (v0_) ∧ Kd.R (Kd.int .i64) 3 w' w.heap.size (fun _ => True) v0_ r ∧ Below w.heap.size w w' := by
 have hu28 := Tryd.underlying28
 have HB := Aside0.mk (Below.refl w.heap.size w)
 have H : ((palingref11_fields.f a0_0).bind fun t170 => (if t170.toList = ([] : List UInt8) then (palingref11_Next.j0 k a1 true a0_0 a0_1 a0_2 a0_3 a0_4 a0_5 a0_6) else (if a0_0 = 12 then (palingref11_Next.j0 k a1 true a0_0 a0_1 a0_2 a0_3 a0_4 a0_5 a0_6) else (palingref11_Next.j0 k a1 (a0_0 == 13) a0_0 a0_1 a0_2 a0_3 a0_4 a0_5 a0_6)))) = some r := h
 clear h
 have HC3 := Aside0.mk H
 clear H
 go_enter Tryd.func76, Tryd.ntmps76
 go_upto_region 1 with (first | ((with_reducible refine gate_dst (N := 2) rfl ?_); refine box_event ?hg (N := 2) ?hd (cs := #[.int .i64 a0_0, .int .i64 a0_1, .int .i64 a0_2, .int .i64 a0_3, .int .i64 a0_4, .int .i64 a0_5, .int .i64 a0_6]) (t := 28) ?hr ?_; (case hd => rfl); (case hg => rfl); (case hr => first | (go_simp; done) | (go_simp; rfl)); intro gb0 hg w4 hbox hb; have BK0 := Aside0.mk (hbox); have GW0 := Aside0.mk ((by rw [hg]; exact (below_size aq0) : w.heap.size ≤ gb0)); have GE0 := Aside0.mk ((by rw [hg]; exact (below_size aq0) : w.heap.size ≤ gb0)); replace HB := Aside0.mk (below_step aq0 hb); clear hb hbox hg))
 (try simp only [Act.put, List.setIfInBounds_toArray, List.set_cons_zero, List.set_cons_succ])
 go_cut [5] (fun v5 wc => ∃ (kq : Nat) (x5_2 : Bool), v5 = .bool x5_2 ∧ Aside0 (palingref11_Next.j0 kq a1 x5_2 a0_0 a0_1 a0_2 a0_3 a0_4 a0_5 a0_6 = some r) ∧ Aside0 (kq ≤ k) ∧ Aside0 (wc.heap[gb0]? = some (.cells #[.int .i64 a0_0, .int .i64 a0_1, .int .i64 a0_2, .int .i64 a0_3, .int .i64 a0_4, .int .i64 a0_5, .int .i64 a0_6] 28 (0, 0))) ∧ Aside0 (Below w.heap.size w wc))
 case first =>
  have H := HC3.out
  clear HC3
  obtain ⟨t170, A5, H⟩ := bS_ H
  by_cases c6 : t170.toList = ([] : List UInt8)
  ·rw [if_pos c6] at H
   have c6b0 : (t170.toList == ([] : List UInt8)) = true := beq_iff_eq.mpr c6
   have c6b1 : (t170.toList != ([] : List UInt8)) = false := bne_eq_false_iff_eq.mpr c6
   clear c6
   (first | rw [c6b0] | (simp only [i64_w, i32_w]; rw [c6b0]) | skip)
   have H' := Aside0.mk H
   clear H
   obtain ⟨hcz7_0, hcz7_1, hcz7_2, hcz7_3, hcz7_4, hcz7_5, hcz7_6, hfz7_0, hfz7_1, hfz7_2, hfz7_3, hfz7_4, hfz7_5, hfz7_6⟩ := czf7 BK0.out
   go_wp2_with (first | ((with_reducible refine gate_callee (f := 43) rfl ?_); refine goesL_ (some 8) rfl rfl Tryd.func43 (by kernel_rfl) rfl #[.int .i64 a0_0] rfl aq4 ?_; (with_reducible refine (palingref11_fields.calls a0_0 t170 _ A5.out).mono ?_); rintro e w8 ⟨rfl, hb⟩; refine ⟨_, rfl, ?_⟩; replace BK0 := Aside0.mk (blk_below (g := gb0) (o := .cells #[.int .i64 a0_0, .int .i64 a0_1, .int .i64 a0_2, .int .i64 a0_3, .int .i64 a0_4, .int .i64 a0_5, .int .i64 a0_6] 28 (0, 0)) aq8 hb); replace HB := Aside0.mk (below_step aq3 hb); (try clear hb); (try clear hb2); (try clear hk); (try clear hi)))
   go_meet
   case rel => exact ⟨_, (true), aq5, H', ⟨aq41⟩, ⟨aq8⟩, ⟨aq3⟩⟩
  rw [if_neg c6] at H
  have c6b0 : (t170.toList == ([] : List UInt8)) = false := beq_eq_false_iff_ne.mpr c6
  have c6b1 : (t170.toList != ([] : List UInt8)) = true := bne_iff_ne.mpr c6
  (first | rw [c6b0] | (simp only [i64_w, i32_w]; rw [c6b0]) | skip)
  by_cases c9 : a0_0 = 12
  rotate_left
  ·rw [if_neg c9] at H
   have c9b0 : (a0_0 == 12) = false := beq_eq_false_iff_ne.mpr c9
   have c9b1 : (a0_0 != 12) = true := bne_iff_ne.mpr c9
   have H' := Aside0.mk H
   clear H
   obtain ⟨hcz13_0, hcz13_1, hcz13_2, hcz13_3, hcz13_4, hcz13_5, hcz13_6, hfz13_0, hfz13_1, hfz13_2, hfz13_3, hfz13_4, hfz13_5, hfz13_6⟩ := czf7 BK0.out
   go_wp2_with (first | ((with_reducible refine gate_callee (f := 43) rfl ?_); refine goesL_ (some 8) rfl rfl Tryd.func43 (by kernel_rfl) rfl #[.int .i64 a0_0] rfl aq4 ?_; (with_reducible refine (palingref11_fields.calls a0_0 t170 _ A5.out).mono ?_); rintro e w14 ⟨rfl, hb⟩; refine ⟨_, rfl, ?_⟩; replace BK0 := Aside0.mk (blk_below (g := gb0) (o := .cells #[.int .i64 a0_0, .int .i64 a0_1, .int .i64 a0_2, .int .i64 a0_3, .int .i64 a0_4, .int .i64 a0_5, .int .i64 a0_6] 28 (0, 0)) aq8 hb); replace HB := Aside0.mk (below_step aq3 hb); (try clear hb); (try clear hb2); (try clear hk); (try clear hi); obtain ⟨hcz15_0, hcz15_1, hcz15_2, hcz15_3, hcz15_4, hcz15_5, hcz15_6, hfz15_0, hfz15_1, hfz15_2, hfz15_3, hfz15_4, hfz15_5, hfz15_6⟩ := czf7 BK0.out))
   go_meet
   case rel => exact ⟨_, ((a0_0 == 13)), aq5, H', ⟨aq41⟩, ⟨aq8⟩, ⟨aq3⟩⟩
  rw [if_pos c9] at H
  have c9b0 : (a0_0 == 12) = true := beq_iff_eq.mpr c9
  have c9b1 : (a0_0 != 12) = false := bne_eq_false_iff_eq.mpr c9
  clear c9
  have H' := Aside0.mk H
  clear H
  obtain ⟨hcz10_0, hcz10_1, hcz10_2, hcz10_3, hcz10_4, hcz10_5, hcz10_6, hfz10_0, hfz10_1, hfz10_2, hfz10_3, hfz10_4, hfz10_5, hfz10_6⟩ := czf7 BK0.out
  go_wp2_with (first | ((with_reducible refine gate_callee (f := 43) rfl ?_); refine goesL_ (some 8) rfl rfl Tryd.func43 (by kernel_rfl) rfl #[.int .i64 a0_0] rfl aq4 ?_; (with_reducible refine (palingref11_fields.calls a0_0 t170 _ A5.out).mono ?_); rintro e w11 ⟨rfl, hb⟩; refine ⟨_, rfl, ?_⟩; replace BK0 := Aside0.mk (blk_below (g := gb0) (o := .cells #[.int .i64 a0_0, .int .i64 a0_1, .int .i64 a0_2, .int .i64 a0_3, .int .i64 a0_4, .int .i64 a0_5, .int .i64 a0_6] 28 (0, 0)) aq8 hb); replace HB := Aside0.mk (below_step aq3 hb); (try clear hb); (try clear hb2); (try clear hk); (try clear hi); obtain ⟨hcz12_0, hcz12_1, hcz12_2, hcz12_3, hcz12_4, hcz12_5, hcz12_6, hfz12_0, hfz12_1, hfz12_2, hfz12_3, hfz12_4, hfz12_5, hfz12_6⟩ := czf7 BK0.out))
  go_meet
  case rel => exact ⟨_, (true), aq5, H', ⟨aq41⟩, ⟨aq8⟩, ⟨aq3⟩⟩
 case rest =>
  clear HC3
  obtain ⟨kq, x5_2, rfl, HA, HJ2, BK0, HB⟩ := hcut
  cases kq with
  | zero => exact absurd HA.out (by simp [palingref11_Next.j0])
  | succ kj2 =>
   have H := HA.out
   clear HA
   simp only [palingref11_Next.j0] at H
   by_cases c16 : x5_2 = true
   ·subst c16
    rw [if_pos rfl] at H
    obtain rfl := Option.some.inj H
    go_wp2
    go_ret
    exact ⟨_, aq11, aq28, aq3⟩
   replace c16 := Bool.eq_false_iff.mpr c16
   subst c16
   rw [if_neg nf_] at H
   by_cases c17 : a0_0 = 6
   ·rw [if_pos c17] at H
    have c17b0 : (a0_0 == 6) = true := beq_iff_eq.mpr c17
    have c17b1 : (a0_0 != 6) = false := bne_eq_false_iff_eq.mpr c17
    clear c17
    obtain ⟨y171, hy_⟩ : ∃ y_ : List Int, y_ = (([a0_6] : List Int)) := ⟨_, rfl⟩
    replace H : (some y171) = some r := aq1
    have Ny171 := Aside0.mk hy_
    clear hy_
    obtain rfl := Option.some.inj H
    obtain ⟨hcz18_0, hcz18_1, hcz18_2, hcz18_3, hcz18_4, hcz18_5, hcz18_6, hfz18_0, hfz18_1, hfz18_2, hfz18_3, hfz18_4, hfz18_5, hfz18_6⟩ := czf7 BK0.out
    go_wp2_with (first | ((with_reducible refine gate_dst (N := 26) rfl ?_); refine Kd.R_lit (Kd.int .i64) _ 3 ?hg (N := 26) ?hd (xs := ([a0_6] : List Int)) (inner := [.int .i64 a0_6]) (ok := fun _ => True) (okp := fun _ => True) ?hr ?hp (fun _ hk => hk) trivial (Below.refl _ _) (Nat.le_refl _) (by simp) ?_; (case hd => rfl); (case hg => rfl); (case hr => first | (go_simp; done) | (go_simp; rfl)); (case hp => exact (Reps.one (show Kd.M (Kd.int .i64) _ _ _ a0_6 [.int .i64 a0_6] from rfl) (Reps.none _ _))); intro v172 w19 ho20 hb hg_ hnew_; clear hg_ hnew_; (first | rw [← Ny171.out] at ho20 | (simp only [Int.reduceToNat] at ho20; rw [← Ny171.out] at ho20)); have HO173 := Aside0.mk (Kd.R_lower ho20 (below_size aq3)); replace BK0 := Aside0.mk (blk_below (g := gb0) (o := .cells #[.int .i64 a0_0, .int .i64 a0_1, .int .i64 a0_2, .int .i64 a0_3, .int .i64 a0_4, .int .i64 a0_5, .int .i64 a0_6] 28 (0, 0)) aq8 hb); replace HB := Aside0.mk (below_step aq3 hb); clear hb ho20))
    go_ret
    exact ⟨_, aq11, by (with_reducible repeat (first | apply Kd.R_alloc | apply Kd.R_drewN | apply Kd.R_drew)); exact HO173.out, aq3⟩
   rw [if_neg c17] at H
   have c17b0 : (a0_0 == 6) = false := beq_eq_false_iff_ne.mpr c17
   have c17b1 : (a0_0 != 6) = true := bne_iff_ne.mpr c17
   have HC21 := Aside0.mk H
   clear H
   obtain ⟨hcz22_0, hcz22_1, hcz22_2, hcz22_3, hcz22_4, hcz22_5, hcz22_6, hfz22_0, hfz22_1, hfz22_2, hfz22_3, hfz22_4, hfz22_5, hfz22_6⟩ := czf7 BK0.out
   go_upto_region 5 with (fail)
   go_cut [27] (fun v27 wc => ∃ (kq : Nat) (x27_20 : Bool), v27 = .bool x27_20 ∧ Aside0 (palingref11_Next.j1 kq a1 x27_20 a0_0 a0_1 a0_2 a0_3 a0_4 a0_5 a0_6 = some r) ∧ Aside0 (kq ≤ kj2) ∧ Aside0 (wc.heap[gb0]? = some (.cells #[.int .i64 a0_0, .int .i64 a0_1, .int .i64 a0_2, .int .i64 a0_3, .int .i64 a0_4, .int .i64 a0_5, .int .i64 a0_6] 28 (0, 0))) ∧ Aside0 (Below w.heap.size w wc))
   case first =>
    have H := HC21.out
    clear HC21
    by_cases c23 : a0_0 = 7
    rotate_left
    ·rw [if_neg c23] at H
     have c23b0 : (a0_0 == 7) = false := beq_eq_false_iff_ne.mpr c23
     have c23b1 : (a0_0 != 7) = true := bne_iff_ne.mpr c23
     (first | rw [c23b0] | (simp only [i64_w, i32_w]; rw [c23b0]) | skip)
     have H' := Aside0.mk H
     clear H
     obtain ⟨hcz25_0, hcz25_1, hcz25_2, hcz25_3, hcz25_4, hcz25_5, hcz25_6, hfz25_0, hfz25_1, hfz25_2, hfz25_3, hfz25_4, hfz25_5, hfz25_6⟩ := czf7 BK0.out
     go_wp2
     go_meet
     case rel => exact ⟨_, (false), aq5, H', ⟨aq48⟩, ⟨aq8⟩, ⟨aq3⟩⟩
    rw [if_pos c23] at H
    have c23b0 : (a0_0 == 7) = true := beq_iff_eq.mpr c23
    have c23b1 : (a0_0 != 7) = false := bne_eq_false_iff_eq.mpr c23
    clear c23
    (first | rw [c23b0] | (simp only [i64_w, i32_w]; rw [c23b0]) | skip)
    have H' := Aside0.mk H
    clear H
    obtain ⟨hcz24_0, hcz24_1, hcz24_2, hcz24_3, hcz24_4, hcz24_5, hcz24_6, hfz24_0, hfz24_1, hfz24_2, hfz24_3, hfz24_4, hfz24_5, hfz24_6⟩ := czf7 BK0.out
    go_wp2
    go_meet
    case rel => exact ⟨_, (decide (a0_6 < (wrap64 (a1 + 1)))), aq5, H', ⟨aq48⟩, ⟨aq8⟩, ⟨aq3⟩⟩
   case rest =>
    clear HC21
    obtain ⟨kq, x27_20, rfl, HA, HJ20, BK0, HB⟩ := hcut
    cases kq with
    | zero => exact absurd HA.out (by simp [palingref11_Next.j1])
    | succ kj20 =>
     have H := HA.out
     clear HA
     simp only [palingref11_Next.j1] at H
     by_cases c26 : x27_20 = true
     ·subst c26
      rw [if_pos rfl] at H
      obtain ⟨y174, hy_⟩ : ∃ y_ : List Int, y_ = (([a0_6, wrap64 (a1 + 1)] : List Int)) := ⟨_, rfl⟩
      replace H : (some y174) = some r := aq1
      have Ny174 := Aside0.mk hy_
      clear hy_
      obtain rfl := Option.some.inj H
      obtain ⟨hcz27_0, hcz27_1, hcz27_2, hcz27_3, hcz27_4, hcz27_5, hcz27_6, hfz27_0, hfz27_1, hfz27_2, hfz27_3, hfz27_4, hfz27_5, hfz27_6⟩ := czf7 BK0.out
      go_wp2_with (first | ((with_reducible refine gate_dst (N := 42) rfl ?_); refine Kd.R_lit (Kd.int .i64) _ 3 ?hg (N := 42) ?hd (xs := ([a0_6, wrap64 (a1 + 1)] : List Int)) (inner := [.int .i64 a0_6, .int .i64 (wrap64 (a1 + 1))]) (ok := fun _ => True) (okp := fun _ => True) ?hr ?hp (fun _ hk => hk) trivial (Below.refl _ _) (Nat.le_refl _) (by simp) ?_; (case hd => rfl); (case hg => rfl); (case hr => first | (go_simp; done) | (go_simp; rfl)); (case hp => exact (Reps.one (show Kd.M (Kd.int .i64) _ _ _ a0_6 [.int .i64 a0_6] from rfl) (Reps.one (show Kd.M (Kd.int .i64) _ _ _ (wrap64 (a1 + 1)) [.int .i64 (wrap64 (a1 + 1))] from rfl) (Reps.none _ _)))); intro v175 w28 ho29 hb hg_ hnew_; clear hg_ hnew_; (first | rw [← Ny174.out] at ho29 | (simp only [Int.reduceToNat] at ho29; rw [← Ny174.out] at ho29)); have HO176 := Aside0.mk (Kd.R_lower ho29 (below_size aq3)); replace BK0 := Aside0.mk (blk_below (g := gb0) (o := .cells #[.int .i64 a0_0, .int .i64 a0_1, .int .i64 a0_2, .int .i64 a0_3, .int .i64 a0_4, .int .i64 a0_5, .int .i64 a0_6] 28 (0, 0)) aq8 hb); replace HB := Aside0.mk (below_step aq3 hb); clear hb ho29))
      go_ret
      exact ⟨_, aq11, by (with_reducible repeat (first | apply Kd.R_alloc | apply Kd.R_drewN | apply Kd.R_drew)); exact HO176.out, aq3⟩
     replace c26 := Bool.eq_false_iff.mpr c26
     subst c26
     rw [if_neg nf_] at H
     by_cases c30 : a0_0 = 7
     rotate_left
     ·rw [if_neg c30] at H
      have c30b0 : (a0_0 == 7) = false := beq_eq_false_iff_ne.mpr c30
      have c30b1 : (a0_0 != 7) = true := bne_iff_ne.mpr c30
      obtain ⟨y183, hy_⟩ : ∃ y_ : List Int, y_ = (([wrap64 (a1 + 1)] : List Int)) := ⟨_, rfl⟩
      replace H : (some y183) = some r := aq1
      have Ny183 := Aside0.mk hy_
      clear hy_
      obtain rfl := Option.some.inj H
      obtain ⟨hcz38_0, hcz38_1, hcz38_2, hcz38_3, hcz38_4, hcz38_5, hcz38_6, hfz38_0, hfz38_1, hfz38_2, hfz38_3, hfz38_4, hfz38_5, hfz38_6⟩ := czf7 BK0.out
      go_wp2_with (first | ((with_reducible refine gate_dst (N := 61) rfl ?_); refine Kd.R_lit (Kd.int .i64) _ 3 ?hg (N := 61) ?hd (xs := ([wrap64 (a1 + 1)] : List Int)) (inner := [.int .i64 (wrap64 (a1 + 1))]) (ok := fun _ => True) (okp := fun _ => True) ?hr ?hp (fun _ hk => hk) trivial (Below.refl _ _) (Nat.le_refl _) (by simp) ?_; (case hd => rfl); (case hg => rfl); (case hr => first | (go_simp; done) | (go_simp; rfl)); (case hp => exact (Reps.one (show Kd.M (Kd.int .i64) _ _ _ (wrap64 (a1 + 1)) [.int .i64 (wrap64 (a1 + 1))] from rfl) (Reps.none _ _))); intro v184 w39 ho40 hb hg_ hnew_; clear hg_ hnew_; (first | rw [← Ny183.out] at ho40 | (simp only [Int.reduceToNat] at ho40; rw [← Ny183.out] at ho40)); have HO185 := Aside0.mk (Kd.R_lower ho40 (below_size aq3)); replace BK0 := Aside0.mk (blk_below (g := gb0) (o := .cells #[.int .i64 a0_0, .int .i64 a0_1, .int .i64 a0_2, .int .i64 a0_3, .int .i64 a0_4, .int .i64 a0_5, .int .i64 a0_6] 28 (0, 0)) aq8 hb); replace HB := Aside0.mk (below_step aq3 hb); clear hb ho40))
      go_ret
      exact ⟨_, aq11, by (with_reducible repeat (first | apply Kd.R_alloc | apply Kd.R_drewN | apply Kd.R_drew)); exact HO185.out, aq3⟩
     rw [if_pos c30] at H
     have c30b0 : (a0_0 == 7) = true := beq_iff_eq.mpr c30
     have c30b1 : (a0_0 != 7) = false := bne_eq_false_iff_eq.mpr c30
     clear c30
     by_cases c31 : a0_6 > (wrap64 (a1 + 1))
     rotate_left
     ·rw [if_neg c31] at H
      have c31b0 : decide ((wrap64 (a1 + 1)) < a0_6) = false := decide_eq_false c31
      clear c31
      obtain ⟨y180, hy_⟩ : ∃ y_ : List Int, y_ = (([wrap64 (a1 + 1)] : List Int)) := ⟨_, rfl⟩
      replace H : (some y180) = some r := aq1
      have Ny180 := Aside0.mk hy_
      clear hy_
      obtain rfl := Option.some.inj H
      obtain ⟨hcz35_0, hcz35_1, hcz35_2, hcz35_3, hcz35_4, hcz35_5, hcz35_6, hfz35_0, hfz35_1, hfz35_2, hfz35_3, hfz35_4, hfz35_5, hfz35_6⟩ := czf7 BK0.out
      go_wp2_with (first | ((with_reducible refine gate_dst (N := 61) rfl ?_); refine Kd.R_lit (Kd.int .i64) _ 3 ?hg (N := 61) ?hd (xs := ([wrap64 (a1 + 1)] : List Int)) (inner := [.int .i64 (wrap64 (a1 + 1))]) (ok := fun _ => True) (okp := fun _ => True) ?hr ?hp (fun _ hk => hk) trivial (Below.refl _ _) (Nat.le_refl _) (by simp) ?_; (case hd => rfl); (case hg => rfl); (case hr => first | (go_simp; done) | (go_simp; rfl)); (case hp => exact (Reps.one (show Kd.M (Kd.int .i64) _ _ _ (wrap64 (a1 + 1)) [.int .i64 (wrap64 (a1 + 1))] from rfl) (Reps.none _ _))); intro v181 w36 ho37 hb hg_ hnew_; clear hg_ hnew_; (first | rw [← Ny180.out] at ho37 | (simp only [Int.reduceToNat] at ho37; rw [← Ny180.out] at ho37)); have HO182 := Aside0.mk (Kd.R_lower ho37 (below_size aq3)); replace BK0 := Aside0.mk (blk_below (g := gb0) (o := .cells #[.int .i64 a0_0, .int .i64 a0_1, .int .i64 a0_2, .int .i64 a0_3, .int .i64 a0_4, .int .i64 a0_5, .int .i64 a0_6] 28 (0, 0)) aq8 hb); replace HB := Aside0.mk (below_step aq3 hb); clear hb ho37))
      go_ret
      exact ⟨_, aq11, by (with_reducible repeat (first | apply Kd.R_alloc | apply Kd.R_drewN | apply Kd.R_drew)); exact HO182.out, aq3⟩
     rw [if_pos c31] at H
     have c31b0 : decide ((wrap64 (a1 + 1)) < a0_6) = true := decide_eq_true c31
     clear c31
     obtain ⟨y177, hy_⟩ : ∃ y_ : List Int, y_ = (([wrap64 (a1 + 1), a0_6] : List Int)) := ⟨_, rfl⟩
     replace H : (some y177) = some r := aq1
     have Ny177 := Aside0.mk hy_
     clear hy_
     obtain rfl := Option.some.inj H
     obtain ⟨hcz32_0, hcz32_1, hcz32_2, hcz32_3, hcz32_4, hcz32_5, hcz32_6, hfz32_0, hfz32_1, hfz32_2, hfz32_3, hfz32_4, hfz32_5, hfz32_6⟩ := czf7 BK0.out
     go_wp2_with (first | ((with_reducible refine gate_dst (N := 58) rfl ?_); refine Kd.R_lit (Kd.int .i64) _ 3 ?hg (N := 58) ?hd (xs := ([wrap64 (a1 + 1), a0_6] : List Int)) (inner := [.int .i64 (wrap64 (a1 + 1)), .int .i64 a0_6]) (ok := fun _ => True) (okp := fun _ => True) ?hr ?hp (fun _ hk => hk) trivial (Below.refl _ _) (Nat.le_refl _) (by simp) ?_; (case hd => rfl); (case hg => rfl); (case hr => first | (go_simp; done) | (go_simp; rfl)); (case hp => exact (Reps.one (show Kd.M (Kd.int .i64) _ _ _ (wrap64 (a1 + 1)) [.int .i64 (wrap64 (a1 + 1))] from rfl) (Reps.one (show Kd.M (Kd.int .i64) _ _ _ a0_6 [.int .i64 a0_6] from rfl) (Reps.none _ _)))); intro v178 w33 ho34 hb hg_ hnew_; clear hg_ hnew_; (first | rw [← Ny177.out] at ho34 | (simp only [Int.reduceToNat] at ho34; rw [← Ny177.out] at ho34)); have HO179 := Aside0.mk (Kd.R_lower ho34 (below_size aq3)); replace BK0 := Aside0.mk (blk_below (g := gb0) (o := .cells #[.int .i64 a0_0, .int .i64 a0_1, .int .i64 a0_2, .int .i64 a0_3, .int .i64 a0_4, .int .i64 a0_5, .int .i64 a0_6] 28 (0, 0)) aq8 hb); replace HB := Aside0.mk (below_step aq3 hb); clear hb ho34))
     go_ret
     exact ⟨_, aq11, by (with_reducible repeat (first | apply Kd.R_alloc | apply Kd.R_drewN | apply Kd.R_drew)); exact HO179.out, aq3⟩
/-! ### palingref14_Next: function 56 -/
def palingref14_Next.l0 : Nat → List (S28) → List Int → List Int → Int → Option (List Int)
  | 0, _, _, _, _ => none
  | k + 1, x0, x5, x6, x7 => if x7 < (x5.length : Int) then (if 0 ≤ x7 then (if (rd x5 x7) ≥ 0 then (if (rd x5 x7) < (x0.length : Int) then (if x6.length < 17592186044416 then (palingref14_Next.l0 k x0 x5 (x6 ++ [rd x5 x7]) (wrap64 (x7 + 1))) else (none)) else (palingref14_Next.l0 k x0 x5 x6 (wrap64 (x7 + 1)))) else (palingref14_Next.l0 k x0 x5 x6 (wrap64 (x7 + 1)))) else (none)) else (some x6)
def palingref14_Next.f (k : Nat) (l0 : List (S28)) (a1 : Int) : Option (List Int) := if 0 ≤ a1 then (if a1 < (l0.length : Int) then ((palingref11_Next.f k ((rd_T28 l0 a1).f0) ((rd_T28 l0 a1).f1) ((rd_T28 l0 a1).f2) ((rd_T28 l0 a1).f3) ((rd_T28 l0 a1).f4) ((rd_T28 l0 a1).f5) ((rd_T28 l0 a1).f6) a1).bind fun t187 => (palingref14_Next.l0 k l0 t187 ([] : List Int) 0)) else (none)) else (none)
theorem palingref14_Next.mono_l : ∀ k, (∀ y0 y1 y2 y3, LeO (palingref14_Next.l0 k y0 y1 y2 y3) (palingref14_Next.l0 (k + 1) y0 y1 y2 y3))
  | 0 => fun _ _ _ _ r h => by simp [palingref14_Next.l0] at h
  | k + 1 => by
    have ih0 := palingref14_Next.mono_l k
    intros <;> unfold palingref14_Next.l0 <;> repeat' (first | (with_reducible first | exact ih0 _ _ _ _ | exact palingref11_Next.mono _ _ _ _ _ _ _ _ _ | exact LeO.refl _ | exact LeO.none _ | refine LeO.ite ?_ ?_ | refine LeO.bind ?_ (fun _ => ?_)) | exact ih0 _ _ _ _ | exact palingref11_Next.mono _ _ _ _ _ _ _ _ _ | exact LeO.none _ | refine LeO.ite ?_ ?_ | refine LeO.bind ?_ (fun _ => ?_))
theorem palingref14_Next.mono : ∀ a0 a1 k, LeO (palingref14_Next.f k a0 a1) (palingref14_Next.f (k + 1) a0 a1) := by
 intro a0 a1 k
 have ih0 := palingref14_Next.mono_l k
 unfold palingref14_Next.f
 repeat' (first | (with_reducible first | exact ih0 _ _ _ _ | exact palingref11_Next.mono _ _ _ _ _ _ _ _ _ | exact LeO.refl _ | exact LeO.none _ | refine LeO.ite ?_ ?_ | refine LeO.bind ?_ (fun _ => ?_)) | exact ih0 _ _ _ _ | exact palingref11_Next.mono _ _ _ _ _ _ _ _ _ | exact LeO.none _ | refine LeO.ite ?_ ?_ | refine LeO.bind ?_ (fun _ => ?_))
set_option maxHeartbeats 8000000 in
set_option maxRecDepth 100000 in
theorem palingref14_Next.calls (k : Nat) (A0 : Option Addr) (c0 : Nat) (l0 : List (S28)) (a1 : Int) (r : List Int) (w : World) (hr0 : Kd.C k28 w A0 l0.length l0) (hc0 : l0.length ≤ c0) (h : palingref14_Next.f k l0 a1 = some r) :
    Calls Tryd.prog 56 #[.slice A0 l0.length c0, .int .i64 a1] w fun e w' => ∃ v0_ : Value, e = .returned (v0_) ∧ Kd.R (Kd.int .i64) 3 w' w.heap.size (fun _ => True) v0_ r ∧ Below w.heap.size w w' := by
 have hu28 := Tryd.underlying28
 have HR0 := Aside0.mk hr0
 have HC0 := Aside0.mk hc0
 clear hr0 hc0
 have HB := Aside0.mk (Below.refl w.heap.size w)
 have H : (if 0 ≤ a1 then (if a1 < (l0.length : Int) then ((palingref11_Next.f k ((rd_T28 l0 a1).f0) ((rd_T28 l0 a1).f1) ((rd_T28 l0 a1).f2) ((rd_T28 l0 a1).f3) ((rd_T28 l0 a1).f4) ((rd_T28 l0 a1).f5) ((rd_T28 l0 a1).f6) a1).bind fun t187 => (palingref14_Next.l0 k l0 t187 ([] : List Int) 0)) else (none)) else (none)) = some r := h
 clear h
 by_cases c3 : 0 ≤ a1
 rotate_left
 ·rw [if_neg c3] at H
  exact absurd H (by simp)
 rw [if_pos c3] at H
 have c3b0 : decide (0 ≤ a1) = true := decide_eq_true c3
 clear c3
 by_cases c4 : a1 < (l0.length : Int)
 rotate_left
 ·rw [if_neg c4] at H
  exact absurd H (by simp)
 rw [if_pos c4] at H
 have c4b0 : decide (a1 < (l0.length : Int)) = true := decide_eq_true c4
 clear c4
 obtain ⟨t187, A5, H⟩ := bS_ H
 have H' := Aside0.mk H
 clear H
 have p186 : 0 ≤ (a1 : Int) := of_decide_eq_true aq2
 have q186 : a1 < (l0.length : Int) := of_decide_eq_true aq2
 obtain ⟨ad186, e186, hx186_0, hx186_1, hx186_2, hx186_3, hx186_4, hx186_5, hx186_6⟩ := at_T28 HR0.out a1 p186 q186
 cases e186
 replace p186 := eq_true p186
 replace q186 := eq_true q186
 go_enter Tryd.func56, Tryd.ntmps56
 go_wp2_with (first | ((with_reducible refine gate_callee (f := 76) rfl ?_); refine goesL_ (some 13) rfl rfl Tryd.func76 (by kernel_rfl) rfl #[.agg #[.int .i64 ((rd_T28 l0 a1).f0), .int .i64 ((rd_T28 l0 a1).f1), .int .i64 ((rd_T28 l0 a1).f2), .int .i64 ((rd_T28 l0 a1).f3), .int .i64 ((rd_T28 l0 a1).f4), .int .i64 ((rd_T28 l0 a1).f5), .int .i64 ((rd_T28 l0 a1).f6)], .int .i64 a1] rfl aq4 ?_; (with_reducible refine (palingref11_Next.calls k ((rd_T28 l0 a1).f0) ((rd_T28 l0 a1).f1) ((rd_T28 l0 a1).f2) ((rd_T28 l0 a1).f3) ((rd_T28 l0 a1).f4) ((rd_T28 l0 a1).f5) ((rd_T28 l0 a1).f6) a1 t187 _ A5.out).mono ?_); rintro e w6 ⟨v188, rfl, ho0, hb⟩; refine ⟨_, rfl, ?_⟩; have HO189 := Aside0.mk (Kd.R_lower ho0 (below_size aq0)); replace HB := Aside0.mk (below_step aq0 hb); (try clear hb); (try clear hb2); (try clear hk); (try clear hi); (try clear ho0)))
 go_loopg [6, 7] k (fun kq v6 v7 w' => ∃ (x6_1 : List Int) (x7_1 : Int), v7 = .int .i64 x7_1 ∧ Aside0 (palingref14_Next.l0 kq l0 t187 x6_1 x7_1 = some r) ∧ Aside0 (kq ≤ k) ∧ Aside0 (Kd.R (Kd.int .i64) 3 w' w.heap.size (fun k_ => some k_ ≠ (v6 : Value).ownBlock) v188 t187) ∧ Aside0 (Kd.R (Kd.int .i64) 3 w' w.heap.size (fun k_ => some k_ ≠ (v188 : Value).ownBlock) v6 x6_1) ∧ Aside0 (Below w.heap.size w w'))
 case atStart => exact ⟨(([] : List Int)), (0), aq5, H', ⟨Nat.le_refl _⟩, ⟨by (with_reducible repeat (first | apply Kd.R_alloc | apply Kd.R_drewN | apply Kd.R_drew)); exact Kd.R_mono HO189.out (fun _ hk => (by simp [Value.ownBlock]))⟩, ⟨aq28⟩, ⟨aq0⟩⟩
 case round =>
  clear H'
  obtain ⟨x6_1, x7_1, rfl, HA, HK1, HO_5, HO_6, HB⟩ := hrel
  cases gk with
  | zero => exact absurd HA.out (by simp [palingref14_Next.l0])
  | succ k1 =>
   have H := HA.out
   clear HA
   simp only [palingref14_Next.l0] at H
   by_cases c7 : x7_1 < (t187.length : Int)
   rotate_left
   ·rw [if_neg c7] at H
    have c7b0 : decide (x7_1 < (t187.length : Int)) = false := decide_eq_false c7
    clear c7
    obtain rfl := Option.some.inj H
    obtain ⟨Ao16, co16, eo16⟩ := Kd.R_slice HO_5.out
    subst eo16
    go_wp2
    go_ret
    exact ⟨_, aq11, by (with_reducible repeat (first | apply Kd.R_alloc | apply Kd.R_drewN | apply Kd.R_drew)); exact Kd.R_mono HO_6.out (fun _ hk => trivial), aq0⟩
   rw [if_pos c7] at H
   have c7b0 : decide (x7_1 < (t187.length : Int)) = true := decide_eq_true c7
   clear c7
   by_cases c8 : 0 ≤ x7_1
   rotate_left
   ·rw [if_neg c8] at H
    exact absurd H (by simp)
   rw [if_pos c8] at H
   have c8b0 : decide (0 ≤ x7_1) = true := decide_eq_true c8
   clear c8
   by_cases c9 : (rd t187 x7_1) ≥ 0
   rotate_left
   ·rw [if_neg c9] at H
    have c9b0 : decide (0 ≤ (rd t187 x7_1)) = false := decide_eq_false c9
    clear c9
    have H' := Aside0.mk H
    clear H
    obtain ⟨Ao15, co15, eo15⟩ := Kd.R_slice HO_5.out
    subst eo15
    have p190 : 0 ≤ (x7_1 : Int) := of_decide_eq_true aq2
    have q190 : x7_1 < (t187.length : Int) := of_decide_eq_true aq2
    obtain ⟨ad190, e190, hx190_0⟩ := Kd.at_int (Kd.R_reads' HO_5.out).2.2 x7_1 p190 q190
    cases e190
    replace p190 := eq_true p190
    replace q190 := eq_true q190
    go_wp2
    go_roundg k1
    case measure => have := HK1.out; omega
    case rel => exact ⟨(x6_1), (wrap64 (x7_1 + 1)), aq5, H', ⟨aq47⟩, ⟨aq12⟩, ⟨aq19⟩, ⟨aq0⟩⟩
   rw [if_pos c9] at H
   have c9b0 : decide (0 ≤ (rd t187 x7_1)) = true := decide_eq_true c9
   clear c9
   by_cases c10 : (rd t187 x7_1) < (l0.length : Int)
   rotate_left
   ·rw [if_neg c10] at H
    have c10b0 : decide ((rd t187 x7_1) < (l0.length : Int)) = false := decide_eq_false c10
    clear c10
    have H' := Aside0.mk H
    clear H
    obtain ⟨Ao14, co14, eo14⟩ := Kd.R_slice HO_5.out
    subst eo14
    have p190 : 0 ≤ (x7_1 : Int) := of_decide_eq_true aq2
    have q190 : x7_1 < (t187.length : Int) := of_decide_eq_true aq2
    obtain ⟨ad190, e190, hx190_0⟩ := Kd.at_int (Kd.R_reads' HO_5.out).2.2 x7_1 p190 q190
    cases e190
    replace p190 := eq_true p190
    replace q190 := eq_true q190
    have p191 : 0 ≤ (x7_1 : Int) := of_decide_eq_true aq2
    have q191 : x7_1 < (t187.length : Int) := of_decide_eq_true aq2
    obtain ⟨ad191, e191, hx191_0⟩ := Kd.at_int (Kd.R_reads' HO_5.out).2.2 x7_1 p191 q191
    obtain rfl : ad190 = ad191 := (by injection e191)
    replace p191 := eq_true p191
    replace q191 := eq_true q191
    go_wp2
    go_roundg k1
    case measure => have := HK1.out; omega
    case rel => exact ⟨(x6_1), (wrap64 (x7_1 + 1)), aq5, H', ⟨aq47⟩, ⟨aq12⟩, ⟨aq19⟩, ⟨aq0⟩⟩
   rw [if_pos c10] at H
   have c10b0 : decide ((rd t187 x7_1) < (l0.length : Int)) = true := decide_eq_true c10
   clear c10
   by_cases c11 : x6_1.length < 17592186044416
   rotate_left
   ·rw [if_neg c11] at H
    exact absurd H (by simp)
   rw [if_pos c11] at H
   have LMc11 := Aside0.mk c11
   clear c11
   obtain ⟨y193, hy_⟩ : ∃ y_ : List Int, y_ = (x6_1 ++ [rd t187 x7_1]) := ⟨_, rfl⟩
   replace H : (palingref14_Next.l0 k1 l0 t187 y193 (wrap64 (x7_1 + 1))) = some r := aq1
   have Ny193 := Aside0.mk hy_
   clear hy_
   have H' := Aside0.mk H
   clear H
   obtain ⟨Ao12, co12, eo12⟩ := Kd.R_slice HO_5.out
   subst eo12
   have p190 : 0 ≤ (x7_1 : Int) := of_decide_eq_true aq2
   have q190 : x7_1 < (t187.length : Int) := of_decide_eq_true aq2
   obtain ⟨ad190, e190, hx190_0⟩ := Kd.at_int (Kd.R_reads' HO_5.out).2.2 x7_1 p190 q190
   cases e190
   replace p190 := eq_true p190
   replace q190 := eq_true q190
   have p191 : 0 ≤ (x7_1 : Int) := of_decide_eq_true aq2
   have q191 : x7_1 < (t187.length : Int) := of_decide_eq_true aq2
   obtain ⟨ad191, e191, hx191_0⟩ := Kd.at_int (Kd.R_reads' HO_5.out).2.2 x7_1 p191 q191
   obtain rfl : ad190 = ad191 := (by injection e191)
   replace p191 := eq_true p191
   replace q191 := eq_true q191
   have p192 : 0 ≤ (x7_1 : Int) := of_decide_eq_true aq2
   have q192 : x7_1 < (t187.length : Int) := of_decide_eq_true aq2
   obtain ⟨ad192, e192, hx192_0⟩ := Kd.at_int (Kd.R_reads' HO_5.out).2.2 x7_1 p192 q192
   obtain rfl : ad190 = ad192 := (by injection e192)
   replace p192 := eq_true p192
   replace q192 := eq_true q192
   go_wp2_with (first | ((with_reducible refine gate_builtin (b := .append) (xs := #[.tmp 34, .tmp 39]) rfl ?_); (try (refine gate_guard (by rfl) ?_; dsimp only)); at_builtin; refine Kd.R_append (Kd.int .i64) (w0 := w) w.heap.size rfl (.tmp 34) (.tmp 39) 57 3 (.int .i64 0) 8 rfl Tryd.underlying57 info3 rfl (by decide) (by omega) u6 x6_1 (rd t187 x7_1) [.int .i64 (rd t187 x7_1)] (fun k_ => some k_ ≠ (.slice (some ad190) t187.length co12 : Value).ownBlock) (fun _ => False) rfl rfl ?aP (fun _ hk => hk.elim) ?aF ?aO ?aB ?aS ?aL ?_; (case aP => exact rfl); (case aB => exact aq0); (case aF => exact (fun k_ hk => Kd.fresh' (Kd.R_lt aq12) k_ hk)); (case aO => exact aq19); (case aS => exact (below_size aq0)); (case aL => have := LMc11.out; omega); intro v194 w13 ho hb hg hat; rw [← Ny193.out] at ho; replace HO_5 := Aside0.mk (Kd.R_after (ok := (fun _ => True)) (by (with_reducible repeat (first | apply Kd.R_alloc | apply Kd.R_drewN | apply Kd.R_drew)); exact Kd.R_mono HO_5.out (fun _ hk => ⟨trivial, hk⟩)) hg hat); replace HB := Aside0.mk (hb); have HO195 := Aside0.mk (ho); clear HO_6; clear ho hb hg hat))
   go_roundg k1
   case measure => have := HK1.out; omega
   case rel => exact ⟨(y193), (wrap64 (x7_1 + 1)), aq5, H', ⟨aq47⟩, ⟨aq32⟩, ⟨by (with_reducible repeat (first | apply Kd.R_alloc | apply Kd.R_drewN | apply Kd.R_drew)); exact HO195.out⟩, ⟨aq0⟩⟩
end Go.Proofs.YtdopacgaklaaeaaDoor.PDeadTells
