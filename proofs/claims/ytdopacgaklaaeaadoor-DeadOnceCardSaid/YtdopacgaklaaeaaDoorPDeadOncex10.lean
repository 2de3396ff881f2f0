-- Written by print2.py over the kit's printer. Not trusted: Lean checks it.
import Derived.Test.YtdopacgaklaaeaaDoorPDeadOncehqq
import Derived.Test.YtdopacgaklaaeaaDoorPDeadOncex0
import Derived.Test.YtdopacgaklaaeaaDoorPDeadOncex3
import Derived.Test.YtdopacgaklaaeaaDoorPDeadOncex5
import Derived.Test.YtdopacgaklaaeaaDoorPDeadOncex6
import Derived.Test.YtdopacgaklaaeaaDoorPDeadOncex7
import Derived.Test.YtdopacgaklaaeaaDoorPDeadOncex9
namespace Go.Proofs.YtdopacgaklaaeaaDoor.PDeadOnce
open Go.RowKit Go.Proofs.YtdopacgaklaaeaaDoorW.PrintWords Go.Proofs.YtdopacgaklaaeaaDoorW.PrintLast Go.Proofs.YtdopacgaklaaeaaDoorW.PrintMore
attribute [local go_sem] max2_int min2_int max_two min_two max_three min_three max_four min_four   -- for this text's walks alone
set_option linter.unusedVariables false
set_option linter.unusedSimpArgs false

/-! ### palinglaw18_DeadOnce: function 6 -/
mutual
def palinglaw18_DeadOnce.j0 : Nat → List (S28) → Bool → Option (Bool)
  | 0, _, _ => none
  | k + 1, x0, x19 => if x19 = true then (some true) else ((dead_Needless.f k x0).bind fun t241 => ((palingref14_Reach.f k x0).bind fun t244 => (palinglaw18_DeadOnce.l0 k x0 t241 t244 0)))
def palinglaw18_DeadOnce.l0 : Nat → List (S28) → List Bool → List Bool → Int → Option (Bool)
  | 0, _, _, _, _ => none
  | k + 1, x0, x4, x5, x6 => if x6 < (x0.length : Int) then (if 0 ≤ x6 then (if ((rd_T28 x0 x6).f0) ≥ 8 then (if x6 < (x4.length : Int) then (if x6 < (x5.length : Int) then (if ((rdOf false x4 x6) != (!(rdOf false x5 x6))) = true then (none) else (palinglaw18_DeadOnce.l0 k x0 x4 x5 (wrap64 (x6 + 1)))) else (none)) else (none)) else (if ((rd_T28 x0 x6).f0) = 5 then (if x6 < (x4.length : Int) then (if x6 < (x5.length : Int) then (if ((rdOf false x4 x6) != (!(rdOf false x5 x6))) = true then (none) else (palinglaw18_DeadOnce.l0 k x0 x4 x5 (wrap64 (x6 + 1)))) else (none)) else (none)) else (if ((rd_T28 x0 x6).f0) = 7 then (if x6 < (x4.length : Int) then (if x6 < (x5.length : Int) then (if ((rdOf false x4 x6) != (!(rdOf false x5 x6))) = true then (none) else (palinglaw18_DeadOnce.l0 k x0 x4 x5 (wrap64 (x6 + 1)))) else (none)) else (none)) else (palinglaw18_DeadOnce.l0 k x0 x4 x5 (wrap64 (x6 + 1)))))) else (none)) else ((dead_Code.f k x0).bind fun t254 => ((dead_Code.f k t254).bind fun t257 => ((palingref13_Same.f k t257 t254).bind fun t260 => (some t260))))
end
def palinglaw18_DeadOnce.f (k : Nat) (l0 : List (S28)) : Option (Bool) := (palinglaw18_awake.f k).bind fun t239 => (if t239 = true then (if (l0.length : Int) > 40 then (palinglaw18_DeadOnce.j0 k l0 true) else ((palingref11_Check.f k l0 30 9).bind fun t240 => (palinglaw18_DeadOnce.j0 k l0 (!t240)))) else (none))
theorem palinglaw18_DeadOnce.mono_l : ∀ k, (∀ y0 y1, LeO (palinglaw18_DeadOnce.j0 k y0 y1) (palinglaw18_DeadOnce.j0 (k + 1) y0 y1)) ∧ (∀ y0 y1 y2 y3, LeO (palinglaw18_DeadOnce.l0 k y0 y1 y2 y3) (palinglaw18_DeadOnce.l0 (k + 1) y0 y1 y2 y3))
  | 0 => ⟨fun _ _ r h => by simp [palinglaw18_DeadOnce.j0] at h, fun _ _ _ _ r h => by simp [palinglaw18_DeadOnce.l0] at h⟩
  | k + 1 => by
    obtain ⟨ih0, ih1⟩ := palinglaw18_DeadOnce.mono_l k
    refine ⟨?_, ?_⟩ <;> intros <;> (first | unfold palinglaw18_DeadOnce.j0 | unfold palinglaw18_DeadOnce.l0) <;> repeat' (first | (with_reducible first | exact ih0 _ _ | exact ih1 _ _ _ _ | exact dead_Code.mono _ _ | exact dead_Needless.mono _ _ | exact palinglaw18_awake.mono _ | exact palingref11_Check.mono _ _ _ _ | exact palingref13_Same.mono _ _ _ | exact palingref14_Reach.mono _ _ | exact LeO.refl _ | exact LeO.none _ | refine LeO.ite ?_ ?_ | refine LeO.bind ?_ (fun _ => ?_)) | exact ih0 _ _ | exact ih1 _ _ _ _ | exact dead_Code.mono _ _ | exact dead_Needless.mono _ _ | exact palinglaw18_awake.mono _ | exact palingref11_Check.mono _ _ _ _ | exact palingref13_Same.mono _ _ _ | exact palingref14_Reach.mono _ _ | exact LeO.none _ | refine LeO.ite ?_ ?_ | refine LeO.bind ?_ (fun _ => ?_))
theorem palinglaw18_DeadOnce.mono : ∀ a0 k, LeO (palinglaw18_DeadOnce.f k a0) (palinglaw18_DeadOnce.f (k + 1) a0) := by
 intro a0 k
 obtain ⟨ih0, ih1⟩ := palinglaw18_DeadOnce.mono_l k
 unfold palinglaw18_DeadOnce.f
 repeat' (first | (with_reducible first | exact ih0 _ _ | exact ih1 _ _ _ _ | exact dead_Code.mono _ _ | exact dead_Needless.mono _ _ | exact palinglaw18_awake.mono _ | exact palingref11_Check.mono _ _ _ _ | exact palingref13_Same.mono _ _ _ | exact palingref14_Reach.mono _ _ | exact LeO.refl _ | exact LeO.none _ | refine LeO.ite ?_ ?_ | refine LeO.bind ?_ (fun _ => ?_)) | exact ih0 _ _ | exact ih1 _ _ _ _ | exact dead_Code.mono _ _ | exact dead_Needless.mono _ _ | exact palinglaw18_awake.mono _ | exact palingref11_Check.mono _ _ _ _ | exact palingref13_Same.mono _ _ _ | exact palingref14_Reach.mono _ _ | exact LeO.none _ | refine LeO.ite ?_ ?_ | refine LeO.bind ?_ (fun _ => ?_))
set_option maxHeartbeats 8000000 in
set_option maxRecDepth 100000 in
theorem palinglaw18_DeadOnce.calls (k : Nat) (A0 : Option Addr) (c0 : Nat) (l0 : List (S28)) (r : Bool) (w : World) (hr0 : Kd.C k28 w A0 l0.length l0) (hc0 : l0.length ≤ c0) (h : palinglaw18_DeadOnce.f k l0 = some r) (hgl : GlobOK w) :
    Calls Tryd.prog 6 #[.slice A0 l0.length c0] w fun e w' => e = .returned (.bool r) ∧ Below w.heap.size w w' := by
 have HR0 := Aside0.mk hr0
 have HC0 := Aside0.mk hc0
 clear hr0 hc0
 have HB := Aside0.mk (Below.refl w.heap.size w)
 have HGL := Aside0.mk hgl
 clear hgl
 have H : ((palinglaw18_awake.f k).bind fun t239 => (if t239 = true then (if (l0.length : Int) > 40 then (palinglaw18_DeadOnce.j0 k l0 true) else ((palingref11_Check.f k l0 30 9).bind fun t240 => (palinglaw18_DeadOnce.j0 k l0 (!t240)))) else (none))) = some r := h
 clear h
 obtain ⟨t239, A2, H⟩ := bS_ H
 by_cases c3 : t239 = true
 rotate_left
 ·replace c3 := Bool.eq_false_iff.mpr c3
  subst c3
  rw [if_neg nf_] at H
  exact absurd H (by simp)
 subst c3
 rw [if_pos rfl] at H
 have HC4 := Aside0.mk H
 clear H
 go_enter Tryd.func6, Tryd.ntmps6
 go_upto_region 4 with (first | (go_at_call 7; (with_reducible refine (palinglaw18_awake.calls k  true _ A2.out (GlobOK.step HGL.out aq0)).mono ?_); rintro e w5 ⟨rfl, hb⟩; replace HB := Aside0.mk (below_step aq0 hb); (try clear hb); (try clear hb2); (try clear hk); (try clear hi)))
 repeat (go_quiet (first | (go_at_call 7; (with_reducible refine (palinglaw18_awake.calls k  true _ A2.out (GlobOK.step HGL.out aq0)).mono ?_); rintro e w5 ⟨rfl, hb⟩; replace HB := Aside0.mk (below_step aq0 hb); (try clear hb); (try clear hb2); (try clear hk); (try clear hi))); go_upto_region 4 with (first | (go_at_call 7; (with_reducible refine (palinglaw18_awake.calls k  true _ A2.out (GlobOK.step HGL.out aq0)).mono ?_); rintro e w5 ⟨rfl, hb⟩; replace HB := Aside0.mk (below_step aq0 hb); (try clear hb); (try clear hb2); (try clear hk); (try clear hi))))
 (try simp only [Act.put, List.setIfInBounds_toArray, List.set_cons_zero, List.set_cons_succ])
 go_cut [19] (fun v19 wc => ∃ (kq : Nat) (x19_3 : Bool), v19 = .bool x19_3 ∧ Aside0 (palinglaw18_DeadOnce.j0 kq l0 x19_3 = some r) ∧ Aside0 (kq ≤ k) ∧ Aside0 (Below w.heap.size w wc))
 case first =>
  have H := HC4.out
  clear HC4
  by_cases c6 : (l0.length : Int) > 40
  ·rw [if_pos c6] at H
   have c6b0 : decide (40 < (l0.length : Int)) = true := decide_eq_true c6
   have c6b1 : decide (40 < l0.length) = true := decide_eq_true (by omega)
   clear c6
   (first | rw [c6b0] | (simp only [i64_w, i32_w]; rw [c6b0]) | skip)
   have H' := Aside0.mk H
   clear H
   go_wp2
   repeat (go_quiet (fail); try go_wp2)
   go_meet
   case rel => exact ⟨_, (true), aq9, H', ⟨aq37⟩, ⟨aq0⟩⟩
  rw [if_neg c6] at H
  have c6b0 : decide (40 < (l0.length : Int)) = false := decide_eq_false c6
  have c6b1 : decide (40 < l0.length) = false := decide_eq_false (by omega)
  clear c6
  (first | rw [c6b0] | (simp only [i64_w, i32_w]; rw [c6b0]) | skip)
  obtain ⟨t240, A7, H⟩ := bS_ H
  have H' := Aside0.mk H
  clear H
  go_wp2_with (first | (go_at_call 8; (with_reducible refine (palingref11_Check.calls k _ _ l0 30 9 t240 _ ?side1 ?side2 A7.out).mono ?_); (case side1 => repeat (first | exact (Kd.C_below HR0.out HB.out) | (with_reducible refine Kd.C_alloc ?_ _) | (with_reducible refine Kd.C_drewN ?_ _) | (with_reducible refine Kd.C_drew ?_))); (case side2 => exact HC0.out); rintro e w8 ⟨rfl, hb⟩; replace HB := Aside0.mk (below_step aq0 hb); (try clear hb); (try clear hb2); (try clear hk); (try clear hi)))
  repeat (go_quiet (first | (go_at_call 8; (with_reducible refine (palingref11_Check.calls k _ _ l0 30 9 t240 _ ?side1 ?side2 A7.out).mono ?_); (case side1 => repeat (first | exact (Kd.C_below HR0.out HB.out) | (with_reducible refine Kd.C_alloc ?_ _) | (with_reducible refine Kd.C_drewN ?_ _) | (with_reducible refine Kd.C_drew ?_))); (case side2 => exact HC0.out); rintro e w8 ⟨rfl, hb⟩; replace HB := Aside0.mk (below_step aq0 hb); (try clear hb); (try clear hb2); (try clear hk); (try clear hi))); try go_wp2_with (first | (go_at_call 8; (with_reducible refine (palingref11_Check.calls k _ _ l0 30 9 t240 _ ?side1 ?side2 A7.out).mono ?_); (case side1 => repeat (first | exact (Kd.C_below HR0.out HB.out) | (with_reducible refine Kd.C_alloc ?_ _) | (with_reducible refine Kd.C_drewN ?_ _) | (with_reducible refine Kd.C_drew ?_))); (case side2 => exact HC0.out); rintro e w8 ⟨rfl, hb⟩; replace HB := Aside0.mk (below_step aq0 hb); (try clear hb); (try clear hb2); (try clear hk); (try clear hi))))
  go_meet
  case rel => exact ⟨_, (!t240), aq9, H', ⟨aq37⟩, ⟨aq0⟩⟩
 case rest =>
  clear HC4
  obtain ⟨kq, x19_3, rfl, HA, HJ3, HB⟩ := hcut
  cases kq with
  | zero => exact absurd HA.out (by simp [palinglaw18_DeadOnce.j0])
  | succ kj3 =>
   have H := HA.out
   clear HA
   simp only [palinglaw18_DeadOnce.j0] at H
   by_cases c9 : x19_3 = true
   ·subst c9
    rw [if_pos rfl] at H
    obtain rfl := Option.some.inj H
    go_wp2
    repeat (go_quiet (fail); try go_wp2)
    go_ret
    exact ⟨aq11, aq0⟩
   replace c9 := Bool.eq_false_iff.mpr c9
   subst c9
   rw [if_neg nf_] at H
   obtain ⟨t241, A10, H⟩ := bS_ H
   obtain ⟨t244, A11, H⟩ := bS_ H
   have H' := Aside0.mk H
   clear H
   go_wp2_with (first | (go_at_call 10; (with_reducible refine (dead_Needless.calls kj3 _ _ l0 t241 _ ?side1 ?side2 A10.out (GlobOK.step HGL.out aq0)).mono ?_); (case side1 => repeat (first | exact (Kd.C_below HR0.out HB.out) | (with_reducible refine Kd.C_alloc ?_ _) | (with_reducible refine Kd.C_drewN ?_ _) | (with_reducible refine Kd.C_drew ?_))); (case side2 => exact HC0.out); rintro e w12 ⟨v242, rfl, ho0, hb⟩; have HO243 := Aside0.mk (Kd.R_lower ho0 (below_size aq0)); replace HB := Aside0.mk (below_step aq0 hb); (try clear hb); (try clear hb2); (try clear hk); (try clear hi); (try clear ho0)) | (go_at_call 21; (with_reducible refine (palingref14_Reach.calls kj3 _ _ l0 t244 _ ?side1 ?side2 A11.out).mono ?_); (case side1 => repeat (first | exact (Kd.C_below HR0.out HB.out) | (with_reducible refine Kd.C_alloc ?_ _) | (with_reducible refine Kd.C_drewN ?_ _) | (with_reducible refine Kd.C_drew ?_))); (case side2 => exact HC0.out); rintro e w13 ⟨v245, rfl, ho0, hb⟩; have HO246 := Aside0.mk (Kd.R_lower (Kd.R_new' ho0 (Kd.R_lt aq28)) (below_size aq0)); replace HO243 := Aside0.mk (Kd.R_elder' aq28 (Kd.R_base ho0) hb); replace HB := Aside0.mk (below_step aq0 hb); (try clear hb); (try clear hb2); (try clear hk); (try clear hi); (try clear ho0)))
   repeat (go_quiet (first | (go_at_call 10; (with_reducible refine (dead_Needless.calls kj3 _ _ l0 t241 _ ?side1 ?side2 A10.out (GlobOK.step HGL.out aq0)).mono ?_); (case side1 => repeat (first | exact (Kd.C_below HR0.out HB.out) | (with_reducible refine Kd.C_alloc ?_ _) | (with_reducible refine Kd.C_drewN ?_ _) | (with_reducible refine Kd.C_drew ?_))); (case side2 => exact HC0.out); rintro e w12 ⟨v242, rfl, ho0, hb⟩; have HO243 := Aside0.mk (Kd.R_lower ho0 (below_size aq0)); replace HB := Aside0.mk (below_step aq0 hb); (try clear hb); (try clear hb2); (try clear hk); (try clear hi); (try clear ho0)) | (go_at_call 21; (with_reducible refine (palingref14_Reach.calls kj3 _ _ l0 t244 _ ?side1 ?side2 A11.out).mono ?_); (case side1 => repeat (first | exact (Kd.C_below HR0.out HB.out) | (with_reducible refine Kd.C_alloc ?_ _) | (with_reducible refine Kd.C_drewN ?_ _) | (with_reducible refine Kd.C_drew ?_))); (case side2 => exact HC0.out); rintro e w13 ⟨v245, rfl, ho0, hb⟩; have HO246 := Aside0.mk (Kd.R_lower (Kd.R_new' ho0 (Kd.R_lt aq28)) (below_size aq0)); replace HO243 := Aside0.mk (Kd.R_elder' aq28 (Kd.R_base ho0) hb); replace HB := Aside0.mk (below_step aq0 hb); (try clear hb); (try clear hb2); (try clear hk); (try clear hi); (try clear ho0))); try go_wp2_with (first | (go_at_call 10; (with_reducible refine (dead_Needless.calls kj3 _ _ l0 t241 _ ?side1 ?side2 A10.out (GlobOK.step HGL.out aq0)).mono ?_); (case side1 => repeat (first | exact (Kd.C_below HR0.out HB.out) | (with_reducible refine Kd.C_alloc ?_ _) | (with_reducible refine Kd.C_drewN ?_ _) | (with_reducible refine Kd.C_drew ?_))); (case side2 => exact HC0.out); rintro e w12 ⟨v242, rfl, ho0, hb⟩; have HO243 := Aside0.mk (Kd.R_lower ho0 (below_size aq0)); replace HB := Aside0.mk (below_step aq0 hb); (try clear hb); (try clear hb2); (try clear hk); (try clear hi); (try clear ho0)) | (go_at_call 21; (with_reducible refine (palingref14_Reach.calls kj3 _ _ l0 t244 _ ?side1 ?side2 A11.out).mono ?_); (case side1 => repeat (first | exact (Kd.C_below HR0.out HB.out) | (with_reducible refine Kd.C_alloc ?_ _) | (with_reducible refine Kd.C_drewN ?_ _) | (with_reducible refine Kd.C_drew ?_))); (case side2 => exact HC0.out); rintro e w13 ⟨v245, rfl, ho0, hb⟩; have HO246 := Aside0.mk (Kd.R_lower (Kd.R_new' ho0 (Kd.R_lt aq28)) (below_size aq0)); replace HO243 := Aside0.mk (Kd.R_elder' aq28 (Kd.R_base ho0) hb); replace HB := Aside0.mk (below_step aq0 hb); (try clear hb); (try clear hb2); (try clear hk); (try clear hi); (try clear ho0))))
   go_loopg [6] kj3 (fun kq v6 w' => ∃ (x6_2 : Int), v6 = .int .i64 x6_2 ∧ Aside0 (palinglaw18_DeadOnce.l0 kq l0 t241 t244 x6_2 = some r) ∧ Aside0 (kq ≤ kj3) ∧ Aside0 (Kd.R Kd.bool 4 w' w.heap.size (fun k_ => some k_ ≠ (v245 : Value).ownBlock) v242 t241) ∧ Aside0 (Kd.R Kd.bool 4 w' w.heap.size (fun k_ => some k_ ≠ (v242 : Value).ownBlock) v245 t244) ∧ Aside0 (Below w.heap.size w w'))
   case atStart => exact ⟨(0), aq9, H', ⟨Nat.le_refl _⟩, ⟨by (with_reducible repeat (first | apply Kd.R_alloc | apply Kd.R_drewN | apply Kd.R_drew)); exact Kd.R_mono HO243.out (fun _ hk => hk.2)⟩, ⟨by (with_reducible repeat (first | apply Kd.R_alloc | apply Kd.R_drewN | apply Kd.R_drew)); exact Kd.R_mono HO246.out (fun _ hk => hk.2)⟩, ⟨aq0⟩⟩
   case round =>
    clear H'
    obtain ⟨x6_2, rfl, HA, HK2, HO_4, HO_5, HB⟩ := hrel
    cases gk with
    | zero => exact absurd HA.out (by simp [palinglaw18_DeadOnce.l0])
    | succ k2 =>
     have H := HA.out
     clear HA
     simp only [palinglaw18_DeadOnce.l0] at H
     by_cases c14 : x6_2 < (l0.length : Int)
     rotate_left
     ·rw [if_neg c14] at H
      have c14b0 : decide (x6_2 < (l0.length : Int)) = false := decide_eq_false c14
      clear c14
      obtain ⟨t254, A40, H⟩ := bS_ H
      obtain ⟨t257, A41, H⟩ := bS_ H
      obtain ⟨t260, A42, H⟩ := bS_ H
      obtain rfl := Option.some.inj H
      go_wp2_with (first | (go_at_call 13; (with_reducible refine (dead_Code.calls k2 (fun k_ => k_ < w.heap.size) _ _ l0 t254 _ ?side1 A40.out (GlobOK.step HGL.out aq0)).mono ?_); (case side1 => exact Kd.V_mk HC0.out (Kd.F_below (Kd.C_F k28_heap HR0.out) aq0)); rintro e w43 ⟨v255, rfl, ho0, hb⟩; replace HO_4 := Aside0.mk (Kd.R_below aq12 hb); replace HO_5 := Aside0.mk (Kd.R_below aq18 hb); have HO256 := Aside0.mk (Kd.R_lower (Kd.R_mono (ok' := fun k_ => True) ho0 (fun _ hk_ => trivial)) (below_size aq0)); replace HB := Aside0.mk (below_step aq0 hb); (try clear hb); (try clear hb2); (try clear hk); (try clear hi); (try clear ho0); obtain ⟨Ao44, co44, eo44⟩ := Kd.R_slice HO256.out; subst eo44) | (go_at_call 13; (with_reducible refine (dead_Code.calls k2 (fun k_ => some k_ = (.slice Ao44 t254.length co44 : Value).ownBlock) _ _ t254 t257 _ ?side1 A41.out (GlobOK.step HGL.out aq0)).mono ?_); (case side1 => exact Kd.R_V (Kd.R_tight rfl (Kd.R_apart' (Kd.R_apart' (HO256.out) (Kd.R_typed HO_4.out) (by decide)) (Kd.R_typed HO_5.out) (by decide)))); rintro e w45 ⟨v258, rfl, ho0, hb⟩; replace HO_4 := Aside0.mk (Kd.R_below aq12 hb); replace HO_5 := Aside0.mk (Kd.R_below aq18 hb); have HO259 := Aside0.mk (Kd.R_lower (Kd.R_new' (Kd.R_mono (ok' := fun k_ => True) ho0 (fun _ hk_ => trivial)) (Kd.R_lt aq29)) (below_size aq0)); replace HO256 := Aside0.mk (Kd.R_elder' aq29 (Kd.R_base ho0) hb); replace HB := Aside0.mk (below_step aq0 hb); (try clear hb); (try clear hb2); (try clear hk); (try clear hi); (try clear ho0); obtain ⟨Ao46, co46, eo46⟩ := Kd.R_slice HO259.out; subst eo46) | (go_at_call 12; (with_reducible refine (palingref13_Same.calls k2 _ _ t257 _ _ t254 t260 _ ?side1 ?side2 ?side3 ?side4 A42.out).mono ?_); (case side1 => repeat (first | exact (Kd.R_reads' HO259.out).2.2 | (with_reducible refine Kd.C_alloc ?_ _) | (with_reducible refine Kd.C_drewN ?_ _) | (with_reducible refine Kd.C_drew ?_))); (case side2 => exact (Kd.R_reads' HO259.out).2.1); (case side3 => repeat (first | exact (Kd.R_reads' HO256.out).2.2 | (with_reducible refine Kd.C_alloc ?_ _) | (with_reducible refine Kd.C_drewN ?_ _) | (with_reducible refine Kd.C_drew ?_))); (case side4 => exact (Kd.R_reads' HO256.out).2.1); rintro e w' ⟨rfl, ⟨nd, rfl⟩⟩; (try first | exact ⟨rfl, _, World.drewN_drewN _ _ _⟩ | exact ⟨rfl, _, Eq.trans (World.drewN_drewN _ _ _) (congrArg (World.drewN _) (Nat.add_assoc _ _ _))⟩)))
      repeat (go_quiet (first | (go_at_call 13; (with_reducible refine (dead_Code.calls k2 (fun k_ => k_ < w.heap.size) _ _ l0 t254 _ ?side1 A40.out (GlobOK.step HGL.out aq0)).mono ?_); (case side1 => exact Kd.V_mk HC0.out (Kd.F_below (Kd.C_F k28_heap HR0.out) aq0)); rintro e w43 ⟨v255, rfl, ho0, hb⟩; replace HO_4 := Aside0.mk (Kd.R_below aq12 hb); replace HO_5 := Aside0.mk (Kd.R_below aq18 hb); have HO256 := Aside0.mk (Kd.R_lower (Kd.R_mono (ok' := fun k_ => True) ho0 (fun _ hk_ => trivial)) (below_size aq0)); replace HB := Aside0.mk (below_step aq0 hb); (try clear hb); (try clear hb2); (try clear hk); (try clear hi); (try clear ho0); obtain ⟨Ao44, co44, eo44⟩ := Kd.R_slice HO256.out; subst eo44) | (go_at_call 13; (with_reducible refine (dead_Code.calls k2 (fun k_ => some k_ = (.slice Ao44 t254.length co44 : Value).ownBlock) _ _ t254 t257 _ ?side1 A41.out (GlobOK.step HGL.out aq0)).mono ?_); (case side1 => exact Kd.R_V (Kd.R_tight rfl (Kd.R_apart' (Kd.R_apart' (HO256.out) (Kd.R_typed HO_4.out) (by decide)) (Kd.R_typed HO_5.out) (by decide)))); rintro e w45 ⟨v258, rfl, ho0, hb⟩; replace HO_4 := Aside0.mk (Kd.R_below aq12 hb); replace HO_5 := Aside0.mk (Kd.R_below aq18 hb); have HO259 := Aside0.mk (Kd.R_lower (Kd.R_new' (Kd.R_mono (ok' := fun k_ => True) ho0 (fun _ hk_ => trivial)) (Kd.R_lt aq29)) (below_size aq0)); replace HO256 := Aside0.mk (Kd.R_elder' aq29 (Kd.R_base ho0) hb); replace HB := Aside0.mk (below_step aq0 hb); (try clear hb); (try clear hb2); (try clear hk); (try clear hi); (try clear ho0); obtain ⟨Ao46, co46, eo46⟩ := Kd.R_slice HO259.out; subst eo46) | (go_at_call 12; (with_reducible refine (palingref13_Same.calls k2 _ _ t257 _ _ t254 t260 _ ?side1 ?side2 ?side3 ?side4 A42.out).mono ?_); (case side1 => repeat (first | exact (Kd.R_reads' HO259.out).2.2 | (with_reducible refine Kd.C_alloc ?_ _) | (with_reducible refine Kd.C_drewN ?_ _) | (with_reducible refine Kd.C_drew ?_))); (case side2 => exact (Kd.R_reads' HO259.out).2.1); (case side3 => repeat (first | exact (Kd.R_reads' HO256.out).2.2 | (with_reducible refine Kd.C_alloc ?_ _) | (with_reducible refine Kd.C_drewN ?_ _) | (with_reducible refine Kd.C_drew ?_))); (case side4 => exact (Kd.R_reads' HO256.out).2.1); rintro e w' ⟨rfl, ⟨nd, rfl⟩⟩; (try first | exact ⟨rfl, _, World.drewN_drewN _ _ _⟩ | exact ⟨rfl, _, Eq.trans (World.drewN_drewN _ _ _) (congrArg (World.drewN _) (Nat.add_assoc _ _ _))⟩))); try go_wp2_with (first | (go_at_call 13; (with_reducible refine (dead_Code.calls k2 (fun k_ => k_ < w.heap.size) _ _ l0 t254 _ ?side1 A40.out (GlobOK.step HGL.out aq0)).mono ?_); (case side1 => exact Kd.V_mk HC0.out (Kd.F_below (Kd.C_F k28_heap HR0.out) aq0)); rintro e w43 ⟨v255, rfl, ho0, hb⟩; replace HO_4 := Aside0.mk (Kd.R_below aq12 hb); replace HO_5 := Aside0.mk (Kd.R_below aq18 hb); have HO256 := Aside0.mk (Kd.R_lower (Kd.R_mono (ok' := fun k_ => True) ho0 (fun _ hk_ => trivial)) (below_size aq0)); replace HB := Aside0.mk (below_step aq0 hb); (try clear hb); (try clear hb2); (try clear hk); (try clear hi); (try clear ho0); obtain ⟨Ao44, co44, eo44⟩ := Kd.R_slice HO256.out; subst eo44) | (go_at_call 13; (with_reducible refine (dead_Code.calls k2 (fun k_ => some k_ = (.slice Ao44 t254.length co44 : Value).ownBlock) _ _ t254 t257 _ ?side1 A41.out (GlobOK.step HGL.out aq0)).mono ?_); (case side1 => exact Kd.R_V (Kd.R_tight rfl (Kd.R_apart' (Kd.R_apart' (HO256.out) (Kd.R_typed HO_4.out) (by decide)) (Kd.R_typed HO_5.out) (by decide)))); rintro e w45 ⟨v258, rfl, ho0, hb⟩; replace HO_4 := Aside0.mk (Kd.R_below aq12 hb); replace HO_5 := Aside0.mk (Kd.R_below aq18 hb); have HO259 := Aside0.mk (Kd.R_lower (Kd.R_new' (Kd.R_mono (ok' := fun k_ => True) ho0 (fun _ hk_ => trivial)) (Kd.R_lt aq29)) (below_size aq0)); replace HO256 := Aside0.mk (Kd.R_elder' aq29 (Kd.R_base ho0) hb); replace HB := Aside0.mk (below_step aq0 hb); (try clear hb); (try clear hb2); (try clear hk); (try clear hi); (try clear ho0); obtain ⟨Ao46, co46, eo46⟩ := Kd.R_slice HO259.out; subst eo46) | (go_at_call 12; (with_reducible refine (palingref13_Same.calls k2 _ _ t257 _ _ t254 t260 _ ?side1 ?side2 ?side3 ?side4 A42.out).mono ?_); (case side1 => repeat (first | exact (Kd.R_reads' HO259.out).2.2 | (with_reducible refine Kd.C_alloc ?_ _) | (with_reducible refine Kd.C_drewN ?_ _) | (with_reducible refine Kd.C_drew ?_))); (case side2 => exact (Kd.R_reads' HO259.out).2.1); (case side3 => repeat (first | exact (Kd.R_reads' HO256.out).2.2 | (with_reducible refine Kd.C_alloc ?_ _) | (with_reducible refine Kd.C_drewN ?_ _) | (with_reducible refine Kd.C_drew ?_))); (case side4 => exact (Kd.R_reads' HO256.out).2.1); rintro e w' ⟨rfl, ⟨nd, rfl⟩⟩; (try first | exact ⟨rfl, _, World.drewN_drewN _ _ _⟩ | exact ⟨rfl, _, Eq.trans (World.drewN_drewN _ _ _) (congrArg (World.drewN _) (Nat.add_assoc _ _ _))⟩))))
      go_ret
      exact ⟨aq11, aq0⟩
     rw [if_pos c14] at H
     have c14b0 : decide (x6_2 < (l0.length : Int)) = true := decide_eq_true c14
     clear c14
     by_cases c15 : 0 ≤ x6_2
     rotate_left
     ·rw [if_neg c15] at H
      exact absurd H (by simp)
     rw [if_pos c15] at H
     have c15b0 : decide (0 ≤ x6_2) = true := decide_eq_true c15
     clear c15
     by_cases c16 : ((rd_T28 l0 x6_2).f0) ≥ 8
     ·rw [if_pos c16] at H
      have c16b0 : decide (8 ≤ ((rd_T28 l0 x6_2).f0)) = true := decide_eq_true c16
      clear c16
      by_cases c17 : x6_2 < (t241.length : Int)
      rotate_left
      ·rw [if_neg c17] at H
       exact absurd H (by simp)
      rw [if_pos c17] at H
      have c17b0 : decide (x6_2 < (t241.length : Int)) = true := decide_eq_true c17
      clear c17
      by_cases c18 : x6_2 < (t244.length : Int)
      rotate_left
      ·rw [if_neg c18] at H
       exact absurd H (by simp)
      rw [if_pos c18] at H
      have c18b0 : decide (x6_2 < (t244.length : Int)) = true := decide_eq_true c18
      clear c18
      by_cases c19 : ((rdOf false t241 x6_2) != (!(rdOf false t244 x6_2))) = true
      ·rw [if_pos c19] at H
       exact absurd H (by simp)
      rw [if_neg c19] at H
      have c19b0 : ((rdOf false t241 x6_2) != (!(rdOf false t244 x6_2))) = false := by simpa using c19
      have c19e : (rdOf false t241 x6_2) = !(rdOf false t244 x6_2) := by revert c19; cases (rdOf false t241 x6_2) <;> cases (rdOf false t244 x6_2) <;> simp
      have c19f : ((rdOf false t241 x6_2) == (rdOf false t244 x6_2)) = false := by revert c19; cases (rdOf false t241 x6_2) <;> cases (rdOf false t244 x6_2) <;> simp
      (try (have c19b1 : decide ((rdOf false t241 x6_2) = (!(rdOf false t244 x6_2))) = true := by simpa using c19))
      (try (have c19b2 : ((rdOf false t241 x6_2) == (!(rdOf false t244 x6_2))) = true := by simpa using c19))
      clear c19
      have H' := Aside0.mk H
      clear H
      have p247 : 0 ≤ (x6_2 : Int) := of_decide_eq_true aq3
      have q247 : x6_2 < (l0.length : Int) := of_decide_eq_true aq3
      obtain ⟨ad247, e247, hx247_0, hx247_1, hx247_2, hx247_3, hx247_4, hx247_5, hx247_6⟩ := at_T28 HR0.out x6_2 p247 q247
      cases e247
      replace hx247_0 := (HB.out.cell (World.block_lt_of_cell? w _ hx247_0)).trans hx247_0
      replace hx247_1 := (HB.out.cell (World.block_lt_of_cell? w _ hx247_1)).trans hx247_1
      replace hx247_2 := (HB.out.cell (World.block_lt_of_cell? w _ hx247_2)).trans hx247_2
      replace hx247_3 := (HB.out.cell (World.block_lt_of_cell? w _ hx247_3)).trans hx247_3
      replace hx247_4 := (HB.out.cell (World.block_lt_of_cell? w _ hx247_4)).trans hx247_4
      replace hx247_5 := (HB.out.cell (World.block_lt_of_cell? w _ hx247_5)).trans hx247_5
      replace hx247_6 := (HB.out.cell (World.block_lt_of_cell? w _ hx247_6)).trans hx247_6
      replace p247 := eq_true p247
      replace q247 := eq_true q247
      obtain ⟨Ao22, co22, eo22⟩ := Kd.R_slice HO_4.out
      subst eo22
      have p248 : 0 ≤ (x6_2 : Int) := of_decide_eq_true aq3
      have q248 : x6_2 < (t241.length : Int) := of_decide_eq_true aq3
      obtain ⟨ad248, e248, hx248_0⟩ := Kd.at_bool (Kd.R_reads' HO_4.out).2.2 x6_2 p248 q248
      cases e248
      replace p248 := eq_true p248
      replace q248 := eq_true q248
      obtain ⟨Ao23, co23, eo23⟩ := Kd.R_slice HO_5.out
      subst eo23
      have p249 : 0 ≤ (x6_2 : Int) := of_decide_eq_true aq3
      have q249 : x6_2 < (t244.length : Int) := of_decide_eq_true aq3
      obtain ⟨ad249, e249, hx249_0⟩ := Kd.at_bool (Kd.R_reads' HO_5.out).2.2 x6_2 p249 q249
      cases e249
      replace p249 := eq_true p249
      replace q249 := eq_true q249
      go_wp2
      repeat (go_quiet (fail); try go_wp2)
      go_roundg k2
      case measure => have := HJ3.out; have := HK2.out; omega
      case rel => exact ⟨(wrap64 (x6_2 + 1)), aq9, H', ⟨aq53⟩, ⟨aq12⟩, ⟨aq18⟩, ⟨aq0⟩⟩
     rw [if_neg c16] at H
     have c16b0 : decide (8 ≤ ((rd_T28 l0 x6_2).f0)) = false := decide_eq_false c16
     clear c16
     by_cases c24 : ((rd_T28 l0 x6_2).f0) = 5
     ·rw [if_pos c24] at H
      have c24b0 : (((rd_T28 l0 x6_2).f0) == 5) = true := beq_iff_eq.mpr c24
      have c24b1 : (((rd_T28 l0 x6_2).f0) != 5) = false := bne_eq_false_iff_eq.mpr c24
      clear c24
      by_cases c25 : x6_2 < (t241.length : Int)
      rotate_left
      ·rw [if_neg c25] at H
       exact absurd H (by simp)
      rw [if_pos c25] at H
      have c25b0 : decide (x6_2 < (t241.length : Int)) = true := decide_eq_true c25
      clear c25
      by_cases c26 : x6_2 < (t244.length : Int)
      rotate_left
      ·rw [if_neg c26] at H
       exact absurd H (by simp)
      rw [if_pos c26] at H
      have c26b0 : decide (x6_2 < (t244.length : Int)) = true := decide_eq_true c26
      clear c26
      by_cases c27 : ((rdOf false t241 x6_2) != (!(rdOf false t244 x6_2))) = true
      ·rw [if_pos c27] at H
       exact absurd H (by simp)
      rw [if_neg c27] at H
      have c27b0 : ((rdOf false t241 x6_2) != (!(rdOf false t244 x6_2))) = false := by simpa using c27
      have c27e : (rdOf false t241 x6_2) = !(rdOf false t244 x6_2) := by revert c27; cases (rdOf false t241 x6_2) <;> cases (rdOf false t244 x6_2) <;> simp
      have c27f : ((rdOf false t241 x6_2) == (rdOf false t244 x6_2)) = false := by revert c27; cases (rdOf false t241 x6_2) <;> cases (rdOf false t244 x6_2) <;> simp
      (try (have c27b1 : decide ((rdOf false t241 x6_2) = (!(rdOf false t244 x6_2))) = true := by simpa using c27))
      (try (have c27b2 : ((rdOf false t241 x6_2) == (!(rdOf false t244 x6_2))) = true := by simpa using c27))
      clear c27
      have H' := Aside0.mk H
      clear H
      have p247 : 0 ≤ (x6_2 : Int) := of_decide_eq_true aq3
      have q247 : x6_2 < (l0.length : Int) := of_decide_eq_true aq3
      obtain ⟨ad247, e247, hx247_0, hx247_1, hx247_2, hx247_3, hx247_4, hx247_5, hx247_6⟩ := at_T28 HR0.out x6_2 p247 q247
      cases e247
      replace hx247_0 := (HB.out.cell (World.block_lt_of_cell? w _ hx247_0)).trans hx247_0
      replace hx247_1 := (HB.out.cell (World.block_lt_of_cell? w _ hx247_1)).trans hx247_1
      replace hx247_2 := (HB.out.cell (World.block_lt_of_cell? w _ hx247_2)).trans hx247_2
      replace hx247_3 := (HB.out.cell (World.block_lt_of_cell? w _ hx247_3)).trans hx247_3
      replace hx247_4 := (HB.out.cell (World.block_lt_of_cell? w _ hx247_4)).trans hx247_4
      replace hx247_5 := (HB.out.cell (World.block_lt_of_cell? w _ hx247_5)).trans hx247_5
      replace hx247_6 := (HB.out.cell (World.block_lt_of_cell? w _ hx247_6)).trans hx247_6
      replace p247 := eq_true p247
      replace q247 := eq_true q247
      obtain ⟨Ao30, co30, eo30⟩ := Kd.R_slice HO_4.out
      subst eo30
      have p250 : 0 ≤ (x6_2 : Int) := of_decide_eq_true aq3
      have q250 : x6_2 < (t241.length : Int) := of_decide_eq_true aq3
      obtain ⟨ad250, e250, hx250_0⟩ := Kd.at_bool (Kd.R_reads' HO_4.out).2.2 x6_2 p250 q250
      cases e250
      replace p250 := eq_true p250
      replace q250 := eq_true q250
      obtain ⟨Ao31, co31, eo31⟩ := Kd.R_slice HO_5.out
      subst eo31
      have p251 : 0 ≤ (x6_2 : Int) := of_decide_eq_true aq3
      have q251 : x6_2 < (t244.length : Int) := of_decide_eq_true aq3
      obtain ⟨ad251, e251, hx251_0⟩ := Kd.at_bool (Kd.R_reads' HO_5.out).2.2 x6_2 p251 q251
      cases e251
      replace p251 := eq_true p251
      replace q251 := eq_true q251
      go_wp2
      repeat (go_quiet (fail); try go_wp2)
      go_roundg k2
      case measure => have := HJ3.out; have := HK2.out; omega
      case rel => exact ⟨(wrap64 (x6_2 + 1)), aq9, H', ⟨aq53⟩, ⟨aq12⟩, ⟨aq18⟩, ⟨aq0⟩⟩
     rw [if_neg c24] at H
     have c24b0 : (((rd_T28 l0 x6_2).f0) == 5) = false := beq_eq_false_iff_ne.mpr c24
     have c24b1 : (((rd_T28 l0 x6_2).f0) != 5) = true := bne_iff_ne.mpr c24
     by_cases c32 : ((rd_T28 l0 x6_2).f0) = 7
     rotate_left
     ·rw [if_neg c32] at H
      have c32b0 : (((rd_T28 l0 x6_2).f0) == 7) = false := beq_eq_false_iff_ne.mpr c32
      have c32b1 : (((rd_T28 l0 x6_2).f0) != 7) = true := bne_iff_ne.mpr c32
      have H' := Aside0.mk H
      clear H
      have p247 : 0 ≤ (x6_2 : Int) := of_decide_eq_true aq3
      have q247 : x6_2 < (l0.length : Int) := of_decide_eq_true aq3
      obtain ⟨ad247, e247, hx247_0, hx247_1, hx247_2, hx247_3, hx247_4, hx247_5, hx247_6⟩ := at_T28 HR0.out x6_2 p247 q247
      cases e247
      replace hx247_0 := (HB.out.cell (World.block_lt_of_cell? w _ hx247_0)).trans hx247_0
      replace hx247_1 := (HB.out.cell (World.block_lt_of_cell? w _ hx247_1)).trans hx247_1
      replace hx247_2 := (HB.out.cell (World.block_lt_of_cell? w _ hx247_2)).trans hx247_2
      replace hx247_3 := (HB.out.cell (World.block_lt_of_cell? w _ hx247_3)).trans hx247_3
      replace hx247_4 := (HB.out.cell (World.block_lt_of_cell? w _ hx247_4)).trans hx247_4
      replace hx247_5 := (HB.out.cell (World.block_lt_of_cell? w _ hx247_5)).trans hx247_5
      replace hx247_6 := (HB.out.cell (World.block_lt_of_cell? w _ hx247_6)).trans hx247_6
      replace p247 := eq_true p247
      replace q247 := eq_true q247
      go_wp2
      repeat (go_quiet (fail); try go_wp2)
      go_roundg k2
      case measure => have := HJ3.out; have := HK2.out; omega
      case rel => exact ⟨(wrap64 (x6_2 + 1)), aq9, H', ⟨aq53⟩, ⟨aq12⟩, ⟨aq18⟩, ⟨aq0⟩⟩
     rw [if_pos c32] at H
     have c32b0 : (((rd_T28 l0 x6_2).f0) == 7) = true := beq_iff_eq.mpr c32
     have c32b1 : (((rd_T28 l0 x6_2).f0) != 7) = false := bne_eq_false_iff_eq.mpr c32
     clear c32
     by_cases c33 : x6_2 < (t241.length : Int)
     rotate_left
     ·rw [if_neg c33] at H
      exact absurd H (by simp)
     rw [if_pos c33] at H
     have c33b0 : decide (x6_2 < (t241.length : Int)) = true := decide_eq_true c33
     clear c33
     by_cases c34 : x6_2 < (t244.length : Int)
     rotate_left
     ·rw [if_neg c34] at H
      exact absurd H (by simp)
     rw [if_pos c34] at H
     have c34b0 : decide (x6_2 < (t244.length : Int)) = true := decide_eq_true c34
     clear c34
     by_cases c35 : ((rdOf false t241 x6_2) != (!(rdOf false t244 x6_2))) = true
     ·rw [if_pos c35] at H
      exact absurd H (by simp)
     rw [if_neg c35] at H
     have c35b0 : ((rdOf false t241 x6_2) != (!(rdOf false t244 x6_2))) = false := by simpa using c35
     have c35e : (rdOf false t241 x6_2) = !(rdOf false t244 x6_2) := by revert c35; cases (rdOf false t241 x6_2) <;> cases (rdOf false t244 x6_2) <;> simp
     have c35f : ((rdOf false t241 x6_2) == (rdOf false t244 x6_2)) = false := by revert c35; cases (rdOf false t241 x6_2) <;> cases (rdOf false t244 x6_2) <;> simp
     (try (have c35b1 : decide ((rdOf false t241 x6_2) = (!(rdOf false t244 x6_2))) = true := by simpa using c35))
     (try (have c35b2 : ((rdOf false t241 x6_2) == (!(rdOf false t244 x6_2))) = true := by simpa using c35))
     clear c35
     have H' := Aside0.mk H
     clear H
     have p247 : 0 ≤ (x6_2 : Int) := of_decide_eq_true aq3
     have q247 : x6_2 < (l0.length : Int) := of_decide_eq_true aq3
     obtain ⟨ad247, e247, hx247_0, hx247_1, hx247_2, hx247_3, hx247_4, hx247_5, hx247_6⟩ := at_T28 HR0.out x6_2 p247 q247
     cases e247
     replace hx247_0 := (HB.out.cell (World.block_lt_of_cell? w _ hx247_0)).trans hx247_0
     replace hx247_1 := (HB.out.cell (World.block_lt_of_cell? w _ hx247_1)).trans hx247_1
     replace hx247_2 := (HB.out.cell (World.block_lt_of_cell? w _ hx247_2)).trans hx247_2
     replace hx247_3 := (HB.out.cell (World.block_lt_of_cell? w _ hx247_3)).trans hx247_3
     replace hx247_4 := (HB.out.cell (World.block_lt_of_cell? w _ hx247_4)).trans hx247_4
     replace hx247_5 := (HB.out.cell (World.block_lt_of_cell? w _ hx247_5)).trans hx247_5
     replace hx247_6 := (HB.out.cell (World.block_lt_of_cell? w _ hx247_6)).trans hx247_6
     replace p247 := eq_true p247
     replace q247 := eq_true q247
     obtain ⟨Ao38, co38, eo38⟩ := Kd.R_slice HO_4.out
     subst eo38
     have p252 : 0 ≤ (x6_2 : Int) := of_decide_eq_true aq3
     have q252 : x6_2 < (t241.length : Int) := of_decide_eq_true aq3
     obtain ⟨ad252, e252, hx252_0⟩ := Kd.at_bool (Kd.R_reads' HO_4.out).2.2 x6_2 p252 q252
     cases e252
     replace p252 := eq_true p252
     replace q252 := eq_true q252
     obtain ⟨Ao39, co39, eo39⟩ := Kd.R_slice HO_5.out
     subst eo39
     have p253 : 0 ≤ (x6_2 : Int) := of_decide_eq_true aq3
     have q253 : x6_2 < (t244.length : Int) := of_decide_eq_true aq3
     obtain ⟨ad253, e253, hx253_0⟩ := Kd.at_bool (Kd.R_reads' HO_5.out).2.2 x6_2 p253 q253
     cases e253
     replace p253 := eq_true p253
     replace q253 := eq_true q253
     go_wp2
     repeat (go_quiet (fail); try go_wp2)
     go_roundg k2
     case measure => have := HJ3.out; have := HK2.out; omega
     case rel => exact ⟨(wrap64 (x6_2 + 1)), aq9, H', ⟨aq53⟩, ⟨aq12⟩, ⟨aq18⟩, ⟨aq0⟩⟩
end Go.Proofs.YtdopacgaklaaeaaDoor.PDeadOnce
