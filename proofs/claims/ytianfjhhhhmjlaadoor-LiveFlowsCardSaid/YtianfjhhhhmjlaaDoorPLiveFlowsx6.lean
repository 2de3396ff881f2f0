-- Written by print2.py over the kit's printer. Not trusted: Lean checks it.
import Derived.Test.YtianfjhhhhmjlaaDoorPLiveFlowshqq
import Derived.Test.YtianfjhhhhmjlaaDoorPLiveFlowsx0
import Derived.Test.YtianfjhhhhmjlaaDoorPLiveFlowsx2
import Derived.Test.YtianfjhhhhmjlaaDoorPLiveFlowsx3
import Derived.Test.YtianfjhhhhmjlaaDoorPLiveFlowsx4
import Derived.Test.YtianfjhhhhmjlaaDoorPLiveFlowsx5
import Derived.Test.YtianfjhhhhmjlaaDoorPLiveFlowshlahead
import Derived.Test.YtianfjhhhhmjlaaDoorPLiveFlowshlranges
namespace Go.Proofs.YtianfjhhhhmjlaaDoor.PLiveFlows
open Go.RowKit Go.Proofs.YtianfjhhhhmjlaaDoorW.PrintWords Go.Proofs.YtianfjhhhhmjlaaDoorW.PrintLast Go.Proofs.YtianfjhhhhmjlaaDoorW.PrintMore
attribute [local go_sem] max2_int min2_int max_two min_two max_three min_three max_four min_four   -- for this text's walks alone
set_option linter.unusedVariables false
set_option linter.unusedSimpArgs false

/-! ### palinglaw15_LiveFlows: function 4 -/
mutual
def palinglaw15_LiveFlows.l0 : Nat → List (S39) → List (List Int) → List (List Int) → List (S30) → Int → Option (Bool)
  | 0, _, _, _, _, _ => none
  | k + 1, x0, x5, x6, x7, x8 => if x8 < (x0.length : Int) then (if 0 ≤ x8 then ((palingref11_Uses.f k ((rd_T39 x0 x8).f0) ((rd_T39 x0 x8).f1) ((rd_T39 x0 x8).f2) ((rd_T39 x0 x8).f3) ((rd_T39 x0 x8).f4) ((rd_T39 x0 x8).f5) ((rd_T39 x0 x8).f6)).bind fun t208 => ((palingref11_Def.f k ((rd_T39 x0 x8).f0) ((rd_T39 x0 x8).f1) ((rd_T39 x0 x8).f2) ((rd_T39 x0 x8).f3) ((rd_T39 x0 x8).f4) ((rd_T39 x0 x8).f5) ((rd_T39 x0 x8).f6)).bind fun t212 => (palinglaw15_LiveFlows.l1 k x0 x5 x6 x7 x8 t208 t212 0))) else (none)) else (some true)
def palinglaw15_LiveFlows.l1 : Nat → List (S39) → List (List Int) → List (List Int) → List (S30) → Int → List Int → Int → Int → Option (Bool)
  | 0, _, _, _, _, _, _, _, _ => none
  | k + 1, x0, x5, x6, x7, x8, x9, x10, x11 => if x11 < (x9.length : Int) then (if 0 ≤ x8 then (if x8 < (x5.length : Int) then (if 0 ≤ x11 then ((palinglaw15_has.f k (rd_L5 x5 x8) (rd x9 x11)).bind fun t215 => (if t215 = true then (palinglaw15_LiveFlows.l1 k x0 x5 x6 x7 x8 x9 x10 (wrap64 (x11 + 1))) else (none))) else (none)) else (none)) else (none)) else (palinglaw15_LiveFlows.l2 k x0 x5 x6 x7 x8 x9 x10 0)
def palinglaw15_LiveFlows.l2 : Nat → List (S39) → List (List Int) → List (List Int) → List (S30) → Int → List Int → Int → Int → Option (Bool)
  | 0, _, _, _, _, _, _, _, _ => none
  | k + 1, x0, x5, x6, x7, x8, x9, x10, x12 => if 0 ≤ x8 then (if x8 < (x5.length : Int) then (if x12 < ((rd_L5 x5 x8).length : Int) then (if 0 ≤ x12 then (palinglaw15_LiveFlows.l3 k x0 x5 x6 x7 x8 x9 x10 x12 (rd (rd_L5 x5 x8) x12) false 0) else (none)) else ((palingref14_Next.f k x0 x8).bind fun t225 => (palinglaw15_LiveFlows.l4 k x0 x5 x6 x7 x8 x10 t225 0))) else (none)) else (none)
def palinglaw15_LiveFlows.l3 : Nat → List (S39) → List (List Int) → List (List Int) → List (S30) → Int → List Int → Int → Int → Int → Bool → Int → Option (Bool)
  | 0, _, _, _, _, _, _, _, _, _, _, _ => none
  | k + 1, x0, x5, x6, x7, x8, x9, x10, x12, x13, x14, x15 => if x15 < (x7.length : Int) then (if x14 = true then (palinglaw15_LiveFlows.l3 k x0 x5 x6 x7 x8 x9 x10 x12 x13 true (wrap64 (x15 + 1))) else (if 0 ≤ x15 then (if ((rd_T30 x7 x15).f0) = x13 then (if ((rd_T30 x7 x15).f1) ≤ x8 then (palinglaw15_LiveFlows.l3 k x0 x5 x6 x7 x8 x9 x10 x12 x13 (decide (x8 ≤ ((rd_T30 x7 x15).f2))) (wrap64 (x15 + 1))) else (palinglaw15_LiveFlows.l3 k x0 x5 x6 x7 x8 x9 x10 x12 x13 false (wrap64 (x15 + 1)))) else (palinglaw15_LiveFlows.l3 k x0 x5 x6 x7 x8 x9 x10 x12 x13 false (wrap64 (x15 + 1)))) else (none))) else (if x14 = true then ((palinglaw15_has.f k x9 x13).bind fun t222 => (if t222 = true then (palinglaw15_LiveFlows.l2 k x0 x5 x6 x7 x8 x9 x10 (wrap64 (x12 + 1))) else (if 0 ≤ x8 then (if x8 < (x6.length : Int) then ((palinglaw15_has.f k (rd_L5 x6 x8) x13).bind fun t224 => (if t224 = true then (if x10 = x13 then (some false) else (palinglaw15_LiveFlows.l2 k x0 x5 x6 x7 x8 x9 x10 (wrap64 (x12 + 1)))) else (none))) else (none)) else (none)))) else (none))
def palinglaw15_LiveFlows.l4 : Nat → List (S39) → List (List Int) → List (List Int) → List (S30) → Int → Int → List Int → Int → Option (Bool)
  | 0, _, _, _, _, _, _, _, _ => none
  | k + 1, x0, x5, x6, x7, x8, x10, x16, x17 => if 0 ≤ x8 then (if x8 < (x6.length : Int) then (if x17 < ((rd_L5 x6 x8).length : Int) then (if 0 ≤ x17 then (palinglaw15_LiveFlows.l5 k x0 x5 x6 x7 x8 x10 x16 x17 (rd (rd_L5 x6 x8) x17) false 0) else (none)) else (palinglaw15_LiveFlows.l0 k x0 x5 x6 x7 (wrap64 (x8 + 1)))) else (none)) else (none)
def palinglaw15_LiveFlows.l5 : Nat → List (S39) → List (List Int) → List (List Int) → List (S30) → Int → Int → List Int → Int → Int → Bool → Int → Option (Bool)
  | 0, _, _, _, _, _, _, _, _, _, _, _ => none
  | k + 1, x0, x5, x6, x7, x8, x10, x16, x17, x18, x19, x20 => if x20 < (x16.length : Int) then (if x19 = true then (palinglaw15_LiveFlows.l5 k x0 x5 x6 x7 x8 x10 x16 x17 x18 true (wrap64 (x20 + 1))) else (if 0 ≤ x20 then (if 0 ≤ (rd x16 x20) then (if (rd x16 x20) < (x5.length : Int) then ((palinglaw15_has.f k (rd_L5 x5 (rd x16 x20)) x18).bind fun t233 => (palinglaw15_LiveFlows.l5 k x0 x5 x6 x7 x8 x10 x16 x17 x18 t233 (wrap64 (x20 + 1)))) else (none)) else (none)) else (none))) else (if x19 = true then (if x18 = x10 then (palinglaw15_LiveFlows.l4 k x0 x5 x6 x7 x8 x10 x16 (wrap64 (x17 + 1))) else (if 0 ≤ x8 then (if x8 < (x5.length : Int) then ((palinglaw15_has.f k (rd_L5 x5 x8) x18).bind fun t235 => (if t235 = true then (palinglaw15_LiveFlows.l4 k x0 x5 x6 x7 x8 x10 x16 (wrap64 (x17 + 1))) else (none))) else (none)) else (none))) else (none))
end
def palinglaw15_LiveFlows.f (k : Nat) (l0 : List (S39)) : Option (Bool) := (palinglaw15_awake.f k).bind fun t196 => (if t196 = true then ((palinglaw15_small.f k l0).bind fun t197 => (if t197 = true then ((live_Ahead.f k l0).bind fun t198 => ((live_Behind.f k l0).bind fun t201 => ((live_Ranges.f k l0).bind fun t204 => (palinglaw15_LiveFlows.l0 k l0 t198 t201 t204 0)))) else (some true))) else (none))
theorem palinglaw15_LiveFlows.mono_l : ∀ k, (∀ y0 y1 y2 y3 y4, LeO (palinglaw15_LiveFlows.l0 k y0 y1 y2 y3 y4) (palinglaw15_LiveFlows.l0 (k + 1) y0 y1 y2 y3 y4)) ∧ (∀ y0 y1 y2 y3 y4 y5 y6 y7, LeO (palinglaw15_LiveFlows.l1 k y0 y1 y2 y3 y4 y5 y6 y7) (palinglaw15_LiveFlows.l1 (k + 1) y0 y1 y2 y3 y4 y5 y6 y7)) ∧ (∀ y0 y1 y2 y3 y4 y5 y6 y7, LeO (palinglaw15_LiveFlows.l2 k y0 y1 y2 y3 y4 y5 y6 y7) (palinglaw15_LiveFlows.l2 (k + 1) y0 y1 y2 y3 y4 y5 y6 y7)) ∧ (∀ y0 y1 y2 y3 y4 y5 y6 y7 y8 y9 y10, LeO (palinglaw15_LiveFlows.l3 k y0 y1 y2 y3 y4 y5 y6 y7 y8 y9 y10) (palinglaw15_LiveFlows.l3 (k + 1) y0 y1 y2 y3 y4 y5 y6 y7 y8 y9 y10)) ∧ (∀ y0 y1 y2 y3 y4 y5 y6 y7, LeO (palinglaw15_LiveFlows.l4 k y0 y1 y2 y3 y4 y5 y6 y7) (palinglaw15_LiveFlows.l4 (k + 1) y0 y1 y2 y3 y4 y5 y6 y7)) ∧ (∀ y0 y1 y2 y3 y4 y5 y6 y7 y8 y9 y10, LeO (palinglaw15_LiveFlows.l5 k y0 y1 y2 y3 y4 y5 y6 y7 y8 y9 y10) (palinglaw15_LiveFlows.l5 (k + 1) y0 y1 y2 y3 y4 y5 y6 y7 y8 y9 y10))
  | 0 => ⟨fun _ _ _ _ _ r h => by simp [palinglaw15_LiveFlows.l0] at h, fun _ _ _ _ _ _ _ _ r h => by simp [palinglaw15_LiveFlows.l1] at h, fun _ _ _ _ _ _ _ _ r h => by simp [palinglaw15_LiveFlows.l2] at h, fun _ _ _ _ _ _ _ _ _ _ _ r h => by simp [palinglaw15_LiveFlows.l3] at h, fun _ _ _ _ _ _ _ _ r h => by simp [palinglaw15_LiveFlows.l4] at h, fun _ _ _ _ _ _ _ _ _ _ _ r h => by simp [palinglaw15_LiveFlows.l5] at h⟩
  | k + 1 => by
    obtain ⟨ih0, ih1, ih2, ih3, ih4, ih5⟩ := palinglaw15_LiveFlows.mono_l k
    refine ⟨?_, ?_, ?_, ?_, ?_, ?_⟩ <;> intros <;> (first | unfold palinglaw15_LiveFlows.l0 | unfold palinglaw15_LiveFlows.l1 | unfold palinglaw15_LiveFlows.l2 | unfold palinglaw15_LiveFlows.l3 | unfold palinglaw15_LiveFlows.l4 | unfold palinglaw15_LiveFlows.l5) <;> repeat' (first | (with_reducible first | exact ih0 _ _ _ _ _ | exact ih1 _ _ _ _ _ _ _ _ | exact ih2 _ _ _ _ _ _ _ _ | exact ih3 _ _ _ _ _ _ _ _ _ _ _ | exact ih4 _ _ _ _ _ _ _ _ | exact ih5 _ _ _ _ _ _ _ _ _ _ _ | exact live_Ahead.mono _ _ | exact live_Behind.mono _ _ | exact live_Ranges.mono _ _ | exact palinglaw15_awake.mono _ | exact palinglaw15_has.mono _ _ _ | exact palinglaw15_small.mono _ _ | exact palingref11_Def.mono _ _ _ _ _ _ _ _ | exact palingref11_Uses.mono _ _ _ _ _ _ _ _ | exact palingref14_Next.mono _ _ _ | exact LeO.refl _ | exact LeO.none _ | refine LeO.ite ?_ ?_ | refine LeO.bind ?_ (fun _ => ?_)) | exact ih0 _ _ _ _ _ | exact ih1 _ _ _ _ _ _ _ _ | exact ih2 _ _ _ _ _ _ _ _ | exact ih3 _ _ _ _ _ _ _ _ _ _ _ | exact ih4 _ _ _ _ _ _ _ _ | exact ih5 _ _ _ _ _ _ _ _ _ _ _ | exact live_Ahead.mono _ _ | exact live_Behind.mono _ _ | exact live_Ranges.mono _ _ | exact palinglaw15_awake.mono _ | exact palinglaw15_has.mono _ _ _ | exact palinglaw15_small.mono _ _ | exact palingref11_Def.mono _ _ _ _ _ _ _ _ | exact palingref11_Uses.mono _ _ _ _ _ _ _ _ | exact palingref14_Next.mono _ _ _ | exact LeO.none _ | refine LeO.ite ?_ ?_ | refine LeO.bind ?_ (fun _ => ?_))
theorem palinglaw15_LiveFlows.mono : ∀ a0 k, LeO (palinglaw15_LiveFlows.f k a0) (palinglaw15_LiveFlows.f (k + 1) a0) := by
 intro a0 k
 obtain ⟨ih0, ih1, ih2, ih3, ih4, ih5⟩ := palinglaw15_LiveFlows.mono_l k
 unfold palinglaw15_LiveFlows.f
 repeat' (first | (with_reducible first | exact ih0 _ _ _ _ _ | exact ih1 _ _ _ _ _ _ _ _ | exact ih2 _ _ _ _ _ _ _ _ | exact ih3 _ _ _ _ _ _ _ _ _ _ _ | exact ih4 _ _ _ _ _ _ _ _ | exact ih5 _ _ _ _ _ _ _ _ _ _ _ | exact live_Ahead.mono _ _ | exact live_Behind.mono _ _ | exact live_Ranges.mono _ _ | exact palinglaw15_awake.mono _ | exact palinglaw15_has.mono _ _ _ | exact palinglaw15_small.mono _ _ | exact palingref11_Def.mono _ _ _ _ _ _ _ _ | exact palingref11_Uses.mono _ _ _ _ _ _ _ _ | exact palingref14_Next.mono _ _ _ | exact LeO.refl _ | exact LeO.none _ | refine LeO.ite ?_ ?_ | refine LeO.bind ?_ (fun _ => ?_)) | exact ih0 _ _ _ _ _ | exact ih1 _ _ _ _ _ _ _ _ | exact ih2 _ _ _ _ _ _ _ _ | exact ih3 _ _ _ _ _ _ _ _ _ _ _ | exact ih4 _ _ _ _ _ _ _ _ | exact ih5 _ _ _ _ _ _ _ _ _ _ _ | exact live_Ahead.mono _ _ | exact live_Behind.mono _ _ | exact live_Ranges.mono _ _ | exact palinglaw15_awake.mono _ | exact palinglaw15_has.mono _ _ _ | exact palinglaw15_small.mono _ _ | exact palingref11_Def.mono _ _ _ _ _ _ _ _ | exact palingref11_Uses.mono _ _ _ _ _ _ _ _ | exact palingref14_Next.mono _ _ _ | exact LeO.none _ | refine LeO.ite ?_ ?_ | refine LeO.bind ?_ (fun _ => ?_))
set_option maxHeartbeats 8000000 in
set_option maxRecDepth 100000 in
theorem palinglaw15_LiveFlows.calls (k : Nat) (A0 : Option Addr) (c0 : Nat) (l0 : List (S39)) (r : Bool) (w : World) (hr0 : Kd.C k39 w A0 l0.length l0) (hc0 : l0.length ≤ c0) (h : palinglaw15_LiveFlows.f k l0 = some r) (hgl : GlobOK w) :
    Calls Tryd.prog 4 #[.slice A0 l0.length c0] w fun e w' => e = .returned (.bool r) ∧ Below w.heap.size w w' := by
 have hu39 := Tryd.underlying39
 have HR0 := Aside0.mk hr0
 have HC0 := Aside0.mk hc0
 clear hr0 hc0
 have HB := Aside0.mk (Below.refl w.heap.size w)
 have HGL := Aside0.mk hgl
 clear hgl
 have H : ((palinglaw15_awake.f k).bind fun t196 => (if t196 = true then ((palinglaw15_small.f k l0).bind fun t197 => (if t197 = true then ((live_Ahead.f k l0).bind fun t198 => ((live_Behind.f k l0).bind fun t201 => ((live_Ranges.f k l0).bind fun t204 => (palinglaw15_LiveFlows.l0 k l0 t198 t201 t204 0)))) else (some true))) else (none))) = some r := h
 clear h
 obtain ⟨t196, A2, H⟩ := bS_ H
 by_cases c3 : t196 = true
 rotate_left
 ·replace c3 := Bool.eq_false_iff.mpr c3
  subst c3
  rw [if_neg nf_] at H
  exact absurd H (by simp)
 subst c3
 rw [if_pos rfl] at H
 obtain ⟨t197, A4, H⟩ := bS_ H
 by_cases c5 : t197 = true
 rotate_left
 ·replace c5 := Bool.eq_false_iff.mpr c5
  subst c5
  rw [if_neg nf_] at H
  obtain rfl := Option.some.inj H
  go_enter Tryd.func4, Tryd.ntmps4
  go_wp2_with (first | (go_at_call 7; (with_reducible refine (palinglaw15_awake.calls k  true _ A2.out (GlobOK.step HGL.out aq0)).mono ?_); rintro e w87 ⟨rfl, hb⟩; replace HB := Aside0.mk (below_step aq0 hb); (try clear hb); (try clear hb2); (try clear hk); (try clear hi)) | (go_at_call 8; (with_reducible refine (palinglaw15_small.calls k _ _ l0 false _ ?side1 ?side2 A4.out).mono ?_); (case side1 => repeat (first | exact (Kd.C_below HR0.out HB.out) | (with_reducible refine Kd.C_alloc ?_ _) | (with_reducible refine Kd.C_drewN ?_ _) | (with_reducible refine Kd.C_drew ?_))); (case side2 => exact HC0.out); rintro e w' ⟨rfl, ⟨nd, rfl⟩⟩; (try first | exact ⟨rfl, _, World.drewN_drewN _ _ _⟩ | exact ⟨rfl, _, Eq.trans (World.drewN_drewN _ _ _) (congrArg (World.drewN _) (Nat.add_assoc _ _ _))⟩)))
  repeat (go_quiet (first | (go_at_call 7; (with_reducible refine (palinglaw15_awake.calls k  true _ A2.out (GlobOK.step HGL.out aq0)).mono ?_); rintro e w87 ⟨rfl, hb⟩; replace HB := Aside0.mk (below_step aq0 hb); (try clear hb); (try clear hb2); (try clear hk); (try clear hi)) | (go_at_call 8; (with_reducible refine (palinglaw15_small.calls k _ _ l0 false _ ?side1 ?side2 A4.out).mono ?_); (case side1 => repeat (first | exact (Kd.C_below HR0.out HB.out) | (with_reducible refine Kd.C_alloc ?_ _) | (with_reducible refine Kd.C_drewN ?_ _) | (with_reducible refine Kd.C_drew ?_))); (case side2 => exact HC0.out); rintro e w' ⟨rfl, ⟨nd, rfl⟩⟩; (try first | exact ⟨rfl, _, World.drewN_drewN _ _ _⟩ | exact ⟨rfl, _, Eq.trans (World.drewN_drewN _ _ _) (congrArg (World.drewN _) (Nat.add_assoc _ _ _))⟩))); try go_wp2_with (first | (go_at_call 7; (with_reducible refine (palinglaw15_awake.calls k  true _ A2.out (GlobOK.step HGL.out aq0)).mono ?_); rintro e w87 ⟨rfl, hb⟩; replace HB := Aside0.mk (below_step aq0 hb); (try clear hb); (try clear hb2); (try clear hk); (try clear hi)) | (go_at_call 8; (with_reducible refine (palinglaw15_small.calls k _ _ l0 false _ ?side1 ?side2 A4.out).mono ?_); (case side1 => repeat (first | exact (Kd.C_below HR0.out HB.out) | (with_reducible refine Kd.C_alloc ?_ _) | (with_reducible refine Kd.C_drewN ?_ _) | (with_reducible refine Kd.C_drew ?_))); (case side2 => exact HC0.out); rintro e w' ⟨rfl, ⟨nd, rfl⟩⟩; (try first | exact ⟨rfl, _, World.drewN_drewN _ _ _⟩ | exact ⟨rfl, _, Eq.trans (World.drewN_drewN _ _ _) (congrArg (World.drewN _) (Nat.add_assoc _ _ _))⟩))))
  go_ret
  exact ⟨aq11, aq0⟩
 subst c5
 rw [if_pos rfl] at H
 obtain ⟨t198, A6, H⟩ := bS_ H
 obtain ⟨t201, A7, H⟩ := bS_ H
 obtain ⟨t204, A8, H⟩ := bS_ H
 have H' := Aside0.mk H
 clear H
 go_enter Tryd.func4, Tryd.ntmps4
 go_wp2_with (first | (go_at_call 7; (with_reducible refine (palinglaw15_awake.calls k  true _ A2.out (GlobOK.step HGL.out aq0)).mono ?_); rintro e w9 ⟨rfl, hb⟩; replace HB := Aside0.mk (below_step aq0 hb); (try clear hb); (try clear hb2); (try clear hk); (try clear hi)) | (go_at_call 8; (with_reducible refine (palinglaw15_small.calls k _ _ l0 true _ ?side1 ?side2 A4.out).mono ?_); (case side1 => repeat (first | exact (Kd.C_below HR0.out HB.out) | (with_reducible refine Kd.C_alloc ?_ _) | (with_reducible refine Kd.C_drewN ?_ _) | (with_reducible refine Kd.C_drew ?_))); (case side2 => exact HC0.out); rintro e w' ⟨rfl, ⟨nd, rfl⟩⟩; (try first | exact ⟨rfl, _, World.drewN_drewN _ _ _⟩ | exact ⟨rfl, _, Eq.trans (World.drewN_drewN _ _ _) (congrArg (World.drewN _) (Nat.add_assoc _ _ _))⟩)) | (go_at_call 12; (with_reducible refine (live_Ahead.calls k _ _ l0 t198 _ ?side1 ?side2 A6.out (GlobOK.step HGL.out aq0)).mono ?_); (case side1 => repeat (first | exact (Kd.C_below HR0.out aq0) | (with_reducible refine Kd.C_alloc ?_ _) | (with_reducible refine Kd.C_drewN ?_ _) | (with_reducible refine Kd.C_drew ?_))); (case side2 => exact HC0.out); rintro e w10 ⟨v199, rfl, ho0, hb⟩; have HO200 := Aside0.mk (Kd.S_lower ho0 (below_size aq0)); replace HB := Aside0.mk (below_step aq0 hb); (try clear hb); (try clear hb2); (try clear hk); (try clear hi); (try clear ho0)) | (go_at_call 14; (with_reducible refine (live_Behind.calls k _ _ l0 t201 _ ?side1 ?side2 A7.out (GlobOK.step HGL.out aq0)).mono ?_); (case side1 => repeat (first | exact (Kd.C_below HR0.out HB.out) | (with_reducible refine Kd.C_alloc ?_ _) | (with_reducible refine Kd.C_drewN ?_ _) | (with_reducible refine Kd.C_drew ?_))); (case side2 => exact HC0.out); rintro e w11 ⟨v202, rfl, ho0, hb⟩; have HO203 := Aside0.mk (Kd.S_lower (Kd.S_new' ho0 (Kd.S_lt aq20)) (below_size aq0)); replace HO200 := Aside0.mk (Kd.S_elder' aq20 (Kd.S_base ho0) hb); replace HB := Aside0.mk (below_step aq0 hb); (try clear hb); (try clear hb2); (try clear hk); (try clear hi); (try clear ho0)) | (go_at_call 9; (with_reducible refine (live_Ranges.calls k _ _ l0 t204 _ ?side1 ?side2 A8.out (GlobOK.step HGL.out aq0)).mono ?_); (case side1 => repeat (first | exact (Kd.C_below HR0.out HB.out) | (with_reducible refine Kd.C_alloc ?_ _) | (with_reducible refine Kd.C_drewN ?_ _) | (with_reducible refine Kd.C_drew ?_))); (case side2 => exact HC0.out); rintro e w12 ⟨v205, rfl, ho0, hb⟩; replace HO200 := Aside0.mk (Kd.S_below aq20 hb); replace HO203 := Aside0.mk (Kd.S_below aq44 hb); have HO206 := Aside0.mk (Kd.R_lower ho0 (below_size aq0)); replace HB := Aside0.mk (below_step aq0 hb); (try clear hb); (try clear hb2); (try clear hk); (try clear hi); (try clear ho0)))
 repeat (go_quiet (first | (go_at_call 7; (with_reducible refine (palinglaw15_awake.calls k  true _ A2.out (GlobOK.step HGL.out aq0)).mono ?_); rintro e w9 ⟨rfl, hb⟩; replace HB := Aside0.mk (below_step aq0 hb); (try clear hb); (try clear hb2); (try clear hk); (try clear hi)) | (go_at_call 8; (with_reducible refine (palinglaw15_small.calls k _ _ l0 true _ ?side1 ?side2 A4.out).mono ?_); (case side1 => repeat (first | exact (Kd.C_below HR0.out HB.out) | (with_reducible refine Kd.C_alloc ?_ _) | (with_reducible refine Kd.C_drewN ?_ _) | (with_reducible refine Kd.C_drew ?_))); (case side2 => exact HC0.out); rintro e w' ⟨rfl, ⟨nd, rfl⟩⟩; (try first | exact ⟨rfl, _, World.drewN_drewN _ _ _⟩ | exact ⟨rfl, _, Eq.trans (World.drewN_drewN _ _ _) (congrArg (World.drewN _) (Nat.add_assoc _ _ _))⟩)) | (go_at_call 12; (with_reducible refine (live_Ahead.calls k _ _ l0 t198 _ ?side1 ?side2 A6.out (GlobOK.step HGL.out aq0)).mono ?_); (case side1 => repeat (first | exact (Kd.C_below HR0.out aq0) | (with_reducible refine Kd.C_alloc ?_ _) | (with_reducible refine Kd.C_drewN ?_ _) | (with_reducible refine Kd.C_drew ?_))); (case side2 => exact HC0.out); rintro e w10 ⟨v199, rfl, ho0, hb⟩; have HO200 := Aside0.mk (Kd.S_lower ho0 (below_size aq0)); replace HB := Aside0.mk (below_step aq0 hb); (try clear hb); (try clear hb2); (try clear hk); (try clear hi); (try clear ho0)) | (go_at_call 14; (with_reducible refine (live_Behind.calls k _ _ l0 t201 _ ?side1 ?side2 A7.out (GlobOK.step HGL.out aq0)).mono ?_); (case side1 => repeat (first | exact (Kd.C_below HR0.out HB.out) | (with_reducible refine Kd.C_alloc ?_ _) | (with_reducible refine Kd.C_drewN ?_ _) | (with_reducible refine Kd.C_drew ?_))); (case side2 => exact HC0.out); rintro e w11 ⟨v202, rfl, ho0, hb⟩; have HO203 := Aside0.mk (Kd.S_lower (Kd.S_new' ho0 (Kd.S_lt aq20)) (below_size aq0)); replace HO200 := Aside0.mk (Kd.S_elder' aq20 (Kd.S_base ho0) hb); replace HB := Aside0.mk (below_step aq0 hb); (try clear hb); (try clear hb2); (try clear hk); (try clear hi); (try clear ho0)) | (go_at_call 9; (with_reducible refine (live_Ranges.calls k _ _ l0 t204 _ ?side1 ?side2 A8.out (GlobOK.step HGL.out aq0)).mono ?_); (case side1 => repeat (first | exact (Kd.C_below HR0.out HB.out) | (with_reducible refine Kd.C_alloc ?_ _) | (with_reducible refine Kd.C_drewN ?_ _) | (with_reducible refine Kd.C_drew ?_))); (case side2 => exact HC0.out); rintro e w12 ⟨v205, rfl, ho0, hb⟩; replace HO200 := Aside0.mk (Kd.S_below aq20 hb); replace HO203 := Aside0.mk (Kd.S_below aq44 hb); have HO206 := Aside0.mk (Kd.R_lower ho0 (below_size aq0)); replace HB := Aside0.mk (below_step aq0 hb); (try clear hb); (try clear hb2); (try clear hk); (try clear hi); (try clear ho0))); try go_wp2_with (first | (go_at_call 7; (with_reducible refine (palinglaw15_awake.calls k  true _ A2.out (GlobOK.step HGL.out aq0)).mono ?_); rintro e w9 ⟨rfl, hb⟩; replace HB := Aside0.mk (below_step aq0 hb); (try clear hb); (try clear hb2); (try clear hk); (try clear hi)) | (go_at_call 8; (with_reducible refine (palinglaw15_small.calls k _ _ l0 true _ ?side1 ?side2 A4.out).mono ?_); (case side1 => repeat (first | exact (Kd.C_below HR0.out HB.out) | (with_reducible refine Kd.C_alloc ?_ _) | (with_reducible refine Kd.C_drewN ?_ _) | (with_reducible refine Kd.C_drew ?_))); (case side2 => exact HC0.out); rintro e w' ⟨rfl, ⟨nd, rfl⟩⟩; (try first | exact ⟨rfl, _, World.drewN_drewN _ _ _⟩ | exact ⟨rfl, _, Eq.trans (World.drewN_drewN _ _ _) (congrArg (World.drewN _) (Nat.add_assoc _ _ _))⟩)) | (go_at_call 12; (with_reducible refine (live_Ahead.calls k _ _ l0 t198 _ ?side1 ?side2 A6.out (GlobOK.step HGL.out aq0)).mono ?_); (case side1 => repeat (first | exact (Kd.C_below HR0.out aq0) | (with_reducible refine Kd.C_alloc ?_ _) | (with_reducible refine Kd.C_drewN ?_ _) | (with_reducible refine Kd.C_drew ?_))); (case side2 => exact HC0.out); rintro e w10 ⟨v199, rfl, ho0, hb⟩; have HO200 := Aside0.mk (Kd.S_lower ho0 (below_size aq0)); replace HB := Aside0.mk (below_step aq0 hb); (try clear hb); (try clear hb2); (try clear hk); (try clear hi); (try clear ho0)) | (go_at_call 14; (with_reducible refine (live_Behind.calls k _ _ l0 t201 _ ?side1 ?side2 A7.out (GlobOK.step HGL.out aq0)).mono ?_); (case side1 => repeat (first | exact (Kd.C_below HR0.out HB.out) | (with_reducible refine Kd.C_alloc ?_ _) | (with_reducible refine Kd.C_drewN ?_ _) | (with_reducible refine Kd.C_drew ?_))); (case side2 => exact HC0.out); rintro e w11 ⟨v202, rfl, ho0, hb⟩; have HO203 := Aside0.mk (Kd.S_lower (Kd.S_new' ho0 (Kd.S_lt aq20)) (below_size aq0)); replace HO200 := Aside0.mk (Kd.S_elder' aq20 (Kd.S_base ho0) hb); replace HB := Aside0.mk (below_step aq0 hb); (try clear hb); (try clear hb2); (try clear hk); (try clear hi); (try clear ho0)) | (go_at_call 9; (with_reducible refine (live_Ranges.calls k _ _ l0 t204 _ ?side1 ?side2 A8.out (GlobOK.step HGL.out aq0)).mono ?_); (case side1 => repeat (first | exact (Kd.C_below HR0.out HB.out) | (with_reducible refine Kd.C_alloc ?_ _) | (with_reducible refine Kd.C_drewN ?_ _) | (with_reducible refine Kd.C_drew ?_))); (case side2 => exact HC0.out); rintro e w12 ⟨v205, rfl, ho0, hb⟩; replace HO200 := Aside0.mk (Kd.S_below aq20 hb); replace HO203 := Aside0.mk (Kd.S_below aq44 hb); have HO206 := Aside0.mk (Kd.R_lower ho0 (below_size aq0)); replace HB := Aside0.mk (below_step aq0 hb); (try clear hb); (try clear hb2); (try clear hk); (try clear hi); (try clear ho0))))
 go_loopg [8] k (fun kq v8 w' => ∃ (x8_1 : Int), v8 = .int .i64 x8_1 ∧ Aside0 (palinglaw15_LiveFlows.l0 kq l0 t198 t201 t204 x8_1 = some r) ∧ Aside0 (kq ≤ k) ∧ Aside0 (Kd.S (Kd.slice 3 (Kd.int .i64)) 36 w' w.heap.size (fun k_ => some k_ ≠ (v202 : Value).ownBlock) v199 t198) ∧ Aside0 (Kd.S (Kd.slice 3 (Kd.int .i64)) 36 w' w.heap.size (fun k_ => some k_ ≠ (v199 : Value).ownBlock) v202 t201) ∧ Aside0 (Kd.R k30 30 w' w.heap.size (fun _ => True) v205 t204) ∧ Aside0 (Below w.heap.size w w'))
 case atStart => exact ⟨(0), aq4, H', ⟨Nat.le_refl _⟩, ⟨by (with_reducible repeat (first | apply Kd.S_alloc | apply Kd.S_drewN | apply Kd.S_drew)); exact Kd.S_mono HO200.out (fun _ hk => hk.2)⟩, ⟨by (with_reducible repeat (first | apply Kd.S_alloc | apply Kd.S_drewN | apply Kd.S_drew)); exact Kd.S_mono HO203.out (fun _ hk => hk.2)⟩, ⟨by (with_reducible repeat (first | apply Kd.R_alloc | apply Kd.R_drewN | apply Kd.R_drew)); exact HO206.out⟩, ⟨aq0⟩⟩
 case round =>
  clear H'
  obtain ⟨x8_1, rfl, HA, HK1, HO_5, HO_6, HO_7, HB⟩ := hrel
  cases gk with
  | zero => exact absurd HA.out (by simp [palinglaw15_LiveFlows.l0])
  | succ k1 =>
   have H := HA.out
   clear HA
   simp only [palinglaw15_LiveFlows.l0] at H
   by_cases c13 : x8_1 < (l0.length : Int)
   rotate_left
   ·rw [if_neg c13] at H
    have c13b0 : decide (x8_1 < (l0.length : Int)) = false := decide_eq_false c13
    clear c13
    obtain rfl := Option.some.inj H
    go_wp2
    repeat (go_quiet (fail); try go_wp2)
    go_ret
    exact ⟨aq11, aq0⟩
   rw [if_pos c13] at H
   have c13b0 : decide (x8_1 < (l0.length : Int)) = true := decide_eq_true c13
   clear c13
   by_cases c14 : 0 ≤ x8_1
   rotate_left
   ·rw [if_neg c14] at H
    exact absurd H (by simp)
   rw [if_pos c14] at H
   have c14b0 : decide (0 ≤ x8_1) = true := decide_eq_true c14
   clear c14
   obtain ⟨t208, A15, H⟩ := bS_ H
   obtain ⟨t212, A16, H⟩ := bS_ H
   have H' := Aside0.mk H
   clear H
   have p207 : 0 ≤ (x8_1 : Int) := of_decide_eq_true aq1
   have q207 : x8_1 < (l0.length : Int) := of_decide_eq_true aq1
   obtain ⟨ad207, e207, hx207_0, hx207_1, hx207_2, hx207_3, hx207_4, hx207_5, hx207_6⟩ := at_T39 HR0.out x8_1 p207 q207
   cases e207
   replace hx207_0 := (HB.out.cell (World.block_lt_of_cell? w _ hx207_0)).trans hx207_0
   replace hx207_1 := (HB.out.cell (World.block_lt_of_cell? w _ hx207_1)).trans hx207_1
   replace hx207_2 := (HB.out.cell (World.block_lt_of_cell? w _ hx207_2)).trans hx207_2
   replace hx207_3 := (HB.out.cell (World.block_lt_of_cell? w _ hx207_3)).trans hx207_3
   replace hx207_4 := (HB.out.cell (World.block_lt_of_cell? w _ hx207_4)).trans hx207_4
   replace hx207_5 := (HB.out.cell (World.block_lt_of_cell? w _ hx207_5)).trans hx207_5
   replace hx207_6 := (HB.out.cell (World.block_lt_of_cell? w _ hx207_6)).trans hx207_6
   replace p207 := eq_true p207
   replace q207 := eq_true q207
   go_wp2_with (first | (go_at_call 18; (with_reducible refine (palingref11_Uses.calls k1 ((rd_T39 l0 x8_1).f0) ((rd_T39 l0 x8_1).f1) ((rd_T39 l0 x8_1).f2) ((rd_T39 l0 x8_1).f3) ((rd_T39 l0 x8_1).f4) ((rd_T39 l0 x8_1).f5) ((rd_T39 l0 x8_1).f6) t208 _ A15.out).mono ?_); rintro e w17 ⟨v209, rfl, ho0, hb⟩; replace HO_5 := Aside0.mk (Kd.S_elder' aq9 (Kd.R_base ho0) hb); replace HO_6 := Aside0.mk (Kd.S_elder' aq10 (Kd.R_base ho0) hb); replace HO_7 := Aside0.mk (Kd.R_below aq6 hb); have HO210 := Aside0.mk (Kd.R_lower ho0 (below_size aq0)); replace HB := Aside0.mk (below_step aq0 hb); (try clear hb); (try clear hb2); (try clear hk); (try clear hi); (try clear ho0); have p211 : 0 ≤ (x8_1 : Int) := of_decide_eq_true aq1; have q211 : x8_1 < (l0.length : Int) := of_decide_eq_true aq1; obtain ⟨ad211, e211, hx211_0, hx211_1, hx211_2, hx211_3, hx211_4, hx211_5, hx211_6⟩ := at_T39 HR0.out x8_1 p211 q211; obtain rfl : ad207 = ad211 := (by injection e211); replace hx211_0 := (HB.out.cell (World.block_lt_of_cell? w _ hx211_0)).trans hx211_0; replace hx211_1 := (HB.out.cell (World.block_lt_of_cell? w _ hx211_1)).trans hx211_1; replace hx211_2 := (HB.out.cell (World.block_lt_of_cell? w _ hx211_2)).trans hx211_2; replace hx211_3 := (HB.out.cell (World.block_lt_of_cell? w _ hx211_3)).trans hx211_3; replace hx211_4 := (HB.out.cell (World.block_lt_of_cell? w _ hx211_4)).trans hx211_4; replace hx211_5 := (HB.out.cell (World.block_lt_of_cell? w _ hx211_5)).trans hx211_5; replace hx211_6 := (HB.out.cell (World.block_lt_of_cell? w _ hx211_6)).trans hx211_6; replace p211 := eq_true p211; replace q211 := eq_true q211) | (go_at_call 19; (with_reducible refine (palingref11_Def.calls k1 ((rd_T39 l0 x8_1).f0) ((rd_T39 l0 x8_1).f1) ((rd_T39 l0 x8_1).f2) ((rd_T39 l0 x8_1).f3) ((rd_T39 l0 x8_1).f4) ((rd_T39 l0 x8_1).f5) ((rd_T39 l0 x8_1).f6) t212 _ A16.out).mono ?_); rintro e w18 ⟨rfl, hb⟩; replace HO_5 := Aside0.mk (Kd.S_below aq9 hb); replace HO_6 := Aside0.mk (Kd.S_below aq10 hb); replace HO_7 := Aside0.mk (Kd.R_below aq6 hb); replace HO210 := Aside0.mk (Kd.R_below aq39 hb); replace HB := Aside0.mk (below_step aq0 hb); (try clear hb); (try clear hb2); (try clear hk); (try clear hi)))
   repeat (go_quiet (first | (go_at_call 18; (with_reducible refine (palingref11_Uses.calls k1 ((rd_T39 l0 x8_1).f0) ((rd_T39 l0 x8_1).f1) ((rd_T39 l0 x8_1).f2) ((rd_T39 l0 x8_1).f3) ((rd_T39 l0 x8_1).f4) ((rd_T39 l0 x8_1).f5) ((rd_T39 l0 x8_1).f6) t208 _ A15.out).mono ?_); rintro e w17 ⟨v209, rfl, ho0, hb⟩; replace HO_5 := Aside0.mk (Kd.S_elder' aq9 (Kd.R_base ho0) hb); replace HO_6 := Aside0.mk (Kd.S_elder' aq10 (Kd.R_base ho0) hb); replace HO_7 := Aside0.mk (Kd.R_below aq6 hb); have HO210 := Aside0.mk (Kd.R_lower ho0 (below_size aq0)); replace HB := Aside0.mk (below_step aq0 hb); (try clear hb); (try clear hb2); (try clear hk); (try clear hi); (try clear ho0); have p211 : 0 ≤ (x8_1 : Int) := of_decide_eq_true aq1; have q211 : x8_1 < (l0.length : Int) := of_decide_eq_true aq1; obtain ⟨ad211, e211, hx211_0, hx211_1, hx211_2, hx211_3, hx211_4, hx211_5, hx211_6⟩ := at_T39 HR0.out x8_1 p211 q211; obtain rfl : ad207 = ad211 := (by injection e211); replace hx211_0 := (HB.out.cell (World.block_lt_of_cell? w _ hx211_0)).trans hx211_0; replace hx211_1 := (HB.out.cell (World.block_lt_of_cell? w _ hx211_1)).trans hx211_1; replace hx211_2 := (HB.out.cell (World.block_lt_of_cell? w _ hx211_2)).trans hx211_2; replace hx211_3 := (HB.out.cell (World.block_lt_of_cell? w _ hx211_3)).trans hx211_3; replace hx211_4 := (HB.out.cell (World.block_lt_of_cell? w _ hx211_4)).trans hx211_4; replace hx211_5 := (HB.out.cell (World.block_lt_of_cell? w _ hx211_5)).trans hx211_5; replace hx211_6 := (HB.out.cell (World.block_lt_of_cell? w _ hx211_6)).trans hx211_6; replace p211 := eq_true p211; replace q211 := eq_true q211) | (go_at_call 19; (with_reducible refine (palingref11_Def.calls k1 ((rd_T39 l0 x8_1).f0) ((rd_T39 l0 x8_1).f1) ((rd_T39 l0 x8_1).f2) ((rd_T39 l0 x8_1).f3) ((rd_T39 l0 x8_1).f4) ((rd_T39 l0 x8_1).f5) ((rd_T39 l0 x8_1).f6) t212 _ A16.out).mono ?_); rintro e w18 ⟨rfl, hb⟩; replace HO_5 := Aside0.mk (Kd.S_below aq9 hb); replace HO_6 := Aside0.mk (Kd.S_below aq10 hb); replace HO_7 := Aside0.mk (Kd.R_below aq6 hb); replace HO210 := Aside0.mk (Kd.R_below aq39 hb); replace HB := Aside0.mk (below_step aq0 hb); (try clear hb); (try clear hb2); (try clear hk); (try clear hi))); try go_wp2_with (first | (go_at_call 18; (with_reducible refine (palingref11_Uses.calls k1 ((rd_T39 l0 x8_1).f0) ((rd_T39 l0 x8_1).f1) ((rd_T39 l0 x8_1).f2) ((rd_T39 l0 x8_1).f3) ((rd_T39 l0 x8_1).f4) ((rd_T39 l0 x8_1).f5) ((rd_T39 l0 x8_1).f6) t208 _ A15.out).mono ?_); rintro e w17 ⟨v209, rfl, ho0, hb⟩; replace HO_5 := Aside0.mk (Kd.S_elder' aq9 (Kd.R_base ho0) hb); replace HO_6 := Aside0.mk (Kd.S_elder' aq10 (Kd.R_base ho0) hb); replace HO_7 := Aside0.mk (Kd.R_below aq6 hb); have HO210 := Aside0.mk (Kd.R_lower ho0 (below_size aq0)); replace HB := Aside0.mk (below_step aq0 hb); (try clear hb); (try clear hb2); (try clear hk); (try clear hi); (try clear ho0); have p211 : 0 ≤ (x8_1 : Int) := of_decide_eq_true aq1; have q211 : x8_1 < (l0.length : Int) := of_decide_eq_true aq1; obtain ⟨ad211, e211, hx211_0, hx211_1, hx211_2, hx211_3, hx211_4, hx211_5, hx211_6⟩ := at_T39 HR0.out x8_1 p211 q211; obtain rfl : ad207 = ad211 := (by injection e211); replace hx211_0 := (HB.out.cell (World.block_lt_of_cell? w _ hx211_0)).trans hx211_0; replace hx211_1 := (HB.out.cell (World.block_lt_of_cell? w _ hx211_1)).trans hx211_1; replace hx211_2 := (HB.out.cell (World.block_lt_of_cell? w _ hx211_2)).trans hx211_2; replace hx211_3 := (HB.out.cell (World.block_lt_of_cell? w _ hx211_3)).trans hx211_3; replace hx211_4 := (HB.out.cell (World.block_lt_of_cell? w _ hx211_4)).trans hx211_4; replace hx211_5 := (HB.out.cell (World.block_lt_of_cell? w _ hx211_5)).trans hx211_5; replace hx211_6 := (HB.out.cell (World.block_lt_of_cell? w _ hx211_6)).trans hx211_6; replace p211 := eq_true p211; replace q211 := eq_true q211) | (go_at_call 19; (with_reducible refine (palingref11_Def.calls k1 ((rd_T39 l0 x8_1).f0) ((rd_T39 l0 x8_1).f1) ((rd_T39 l0 x8_1).f2) ((rd_T39 l0 x8_1).f3) ((rd_T39 l0 x8_1).f4) ((rd_T39 l0 x8_1).f5) ((rd_T39 l0 x8_1).f6) t212 _ A16.out).mono ?_); rintro e w18 ⟨rfl, hb⟩; replace HO_5 := Aside0.mk (Kd.S_below aq9 hb); replace HO_6 := Aside0.mk (Kd.S_below aq10 hb); replace HO_7 := Aside0.mk (Kd.R_below aq6 hb); replace HO210 := Aside0.mk (Kd.R_below aq39 hb); replace HB := Aside0.mk (below_step aq0 hb); (try clear hb); (try clear hb2); (try clear hk); (try clear hi))))
   go_loopg [11] k1 (fun kq v11 w' => ∃ (x11_2 : Int), v11 = .int .i64 x11_2 ∧ Aside0 (palinglaw15_LiveFlows.l1 kq l0 t198 t201 t204 x8_1 t208 t212 x11_2 = some r) ∧ Aside0 (kq ≤ k1) ∧ Aside0 (Kd.S (Kd.slice 3 (Kd.int .i64)) 36 w' w.heap.size (fun k_ => some k_ ≠ (v202 : Value).ownBlock ∧ some k_ ≠ (v209 : Value).ownBlock) v199 t198) ∧ Aside0 (Kd.S (Kd.slice 3 (Kd.int .i64)) 36 w' w.heap.size (fun k_ => some k_ ≠ (v199 : Value).ownBlock ∧ some k_ ≠ (v209 : Value).ownBlock) v202 t201) ∧ Aside0 (Kd.R k30 30 w' w.heap.size (fun _ => True) v205 t204) ∧ Aside0 (Kd.R (Kd.int .i64) 3 w' w.heap.size (fun _ => True) v209 t208) ∧ Aside0 (Below w.heap.size w w'))
   case atStart => exact ⟨(0), aq4, H', ⟨Nat.le_refl _⟩, ⟨aq9⟩, ⟨aq10⟩, ⟨aq6⟩, ⟨aq39⟩, ⟨aq0⟩⟩
   case round =>
    clear H'
    obtain ⟨x11_2, rfl, HA, HK2, HO_5, HO_6, HO_7, HO_9, HB⟩ := hrel
    cases gk with
    | zero => exact absurd HA.out (by simp [palinglaw15_LiveFlows.l1])
    | succ k2 =>
     have H := HA.out
     clear HA
     simp only [palinglaw15_LiveFlows.l1] at H
     by_cases c19 : x11_2 < (t208.length : Int)
     ·rw [if_pos c19] at H
      have c19b0 : decide (x11_2 < (t208.length : Int)) = true := decide_eq_true c19
      clear c19
      by_cases c20 : 0 ≤ x8_1
      rotate_left
      ·rw [if_neg c20] at H
       exact absurd H (by simp)
      rw [if_pos c20] at H
      have c20b0 : decide (0 ≤ x8_1) = true := decide_eq_true c20
      clear c20
      by_cases c21 : x8_1 < (t198.length : Int)
      rotate_left
      ·rw [if_neg c21] at H
       exact absurd H (by simp)
      rw [if_pos c21] at H
      have c21b0 : decide (x8_1 < (t198.length : Int)) = true := decide_eq_true c21
      clear c21
      by_cases c22 : 0 ≤ x11_2
      rotate_left
      ·rw [if_neg c22] at H
       exact absurd H (by simp)
      rw [if_pos c22] at H
      have c22b0 : decide (0 ≤ x11_2) = true := decide_eq_true c22
      clear c22
      obtain ⟨t215, A23, H⟩ := bS_ H
      by_cases c24 : t215 = true
      rotate_left
      ·replace c24 := Bool.eq_false_iff.mpr c24
       subst c24
       rw [if_neg nf_] at H
       exact absurd H (by simp)
      subst c24
      rw [if_pos rfl] at H
      have H' := Aside0.mk H
      clear H
      obtain ⟨Ao25, co25, eo25⟩ := Kd.R_slice HO_9.out
      subst eo25
      obtain ⟨Ao26, co26, eo26⟩ := Kd.S_slice HO_5.out
      subst eo26
      have p213 : 0 ≤ (x8_1 : Int) := of_decide_eq_true aq1
      have q213 : x8_1 < (t198.length : Int) := of_decide_eq_true aq1
      obtain ⟨ad213, A213_0, c213_0, e213, hx213_0, hl213_0, hi213_0⟩ := at_L5 (Kd.S_reads' HO_5.out).2.2 x8_1 p213 q213
      cases e213
      obtain ⟨ce213, hce213, hMe213, hcc213⟩ := Kd.S_get HO_5.out [] x8_1 p213 (by first | exact q213 | exact of_decide_eq_true aq1 | (have e_ := (Kd.S_reads' HO_5.out).1; omega))
      obtain ⟨ve213_0, rfl, ge213_0⟩ := hMe213
      have hv213_0 := hcc213 0 _ rfl
      rw [Nat.add_zero, show ((Kd.slice 3 (Kd.int .i64))).sz = 1 from rfl, Nat.mul_one] at hv213_0
      replace hv213_0 := Option.some.inj (hv213_0.symm.trans hx213_0)
      rw [hv213_0] at ge213_0
      have HL213_0 := Aside0.mk (show Kd.R (Kd.int .i64) 3 _ _ _ _ (rd_L5 t198 x8_1) from ge213_0)
      clear hv213_0 ge213_0 hcc213 hce213
      have HR213_0 := Aside0.mk hi213_0
      have HC213_0 := Aside0.mk hl213_0
      clear hi213_0 hl213_0
      replace p213 := eq_true p213
      replace q213 := eq_true q213
      have p214 : 0 ≤ (x11_2 : Int) := of_decide_eq_true aq1
      have q214 : x11_2 < (t208.length : Int) := of_decide_eq_true aq1
      obtain ⟨ad214, e214, hx214_0⟩ := Kd.at_int (Kd.R_reads' HO_9.out).2.2 x11_2 p214 q214
      cases e214
      replace p214 := eq_true p214
      replace q214 := eq_true q214
      go_wp2_with (first | (go_at_call 20; (with_reducible refine (palinglaw15_has.calls k2 _ _ (rd_L5 t198 x8_1) (rd t208 x11_2) true _ ?side1 ?side2 A23.out).mono ?_); (case side1 => repeat (first | exact aq29 | (with_reducible refine Kd.C_alloc ?_ _) | (with_reducible refine Kd.C_drewN ?_ _) | (with_reducible refine Kd.C_drew ?_))); (case side2 => exact HC213_0.out); rintro e w' ⟨rfl, ⟨nd, rfl⟩⟩; (try first | exact ⟨rfl, _, World.drewN_drewN _ _ _⟩ | exact ⟨rfl, _, Eq.trans (World.drewN_drewN _ _ _) (congrArg (World.drewN _) (Nat.add_assoc _ _ _))⟩)))
      repeat (go_quiet (first | (go_at_call 20; (with_reducible refine (palinglaw15_has.calls k2 _ _ (rd_L5 t198 x8_1) (rd t208 x11_2) true _ ?side1 ?side2 A23.out).mono ?_); (case side1 => repeat (first | exact aq29 | (with_reducible refine Kd.C_alloc ?_ _) | (with_reducible refine Kd.C_drewN ?_ _) | (with_reducible refine Kd.C_drew ?_))); (case side2 => exact HC213_0.out); rintro e w' ⟨rfl, ⟨nd, rfl⟩⟩; (try first | exact ⟨rfl, _, World.drewN_drewN _ _ _⟩ | exact ⟨rfl, _, Eq.trans (World.drewN_drewN _ _ _) (congrArg (World.drewN _) (Nat.add_assoc _ _ _))⟩))); try go_wp2_with (first | (go_at_call 20; (with_reducible refine (palinglaw15_has.calls k2 _ _ (rd_L5 t198 x8_1) (rd t208 x11_2) true _ ?side1 ?side2 A23.out).mono ?_); (case side1 => repeat (first | exact aq29 | (with_reducible refine Kd.C_alloc ?_ _) | (with_reducible refine Kd.C_drewN ?_ _) | (with_reducible refine Kd.C_drew ?_))); (case side2 => exact HC213_0.out); rintro e w' ⟨rfl, ⟨nd, rfl⟩⟩; (try first | exact ⟨rfl, _, World.drewN_drewN _ _ _⟩ | exact ⟨rfl, _, Eq.trans (World.drewN_drewN _ _ _) (congrArg (World.drewN _) (Nat.add_assoc _ _ _))⟩))))
      go_roundg k2
      case measure => have := HK1.out; have := HK2.out; omega
      case rel => exact ⟨(wrap64 (x11_2 + 1)), aq4, H', ⟨by have := HK1.out; have := HK2.out; omega⟩, ⟨aq9⟩, ⟨aq10⟩, ⟨aq6⟩, ⟨aq14⟩, ⟨aq0⟩⟩
     rw [if_neg c19] at H
     have c19b0 : decide (x11_2 < (t208.length : Int)) = false := decide_eq_false c19
     clear c19
     have H' := Aside0.mk H
     clear H
     obtain ⟨Ao29, co29, eo29⟩ := Kd.R_slice HO_9.out
     subst eo29
     go_wp2
     repeat (go_quiet (fail); try go_wp2)
     go_loopg [12] k2 (fun kq v12 w' => ∃ (x12_3 : Int), v12 = .int .i64 x12_3 ∧ Aside0 (palinglaw15_LiveFlows.l2 kq l0 t198 t201 t204 x8_1 t208 t212 x12_3 = some r) ∧ Aside0 (kq ≤ k2) ∧ Aside0 (Kd.S (Kd.slice 3 (Kd.int .i64)) 36 w' w.heap.size (fun k_ => some k_ ≠ (v202 : Value).ownBlock ∧ some k_ ≠ ((.slice Ao29 t208.length co29) : Value).ownBlock) v199 t198) ∧ Aside0 (Kd.S (Kd.slice 3 (Kd.int .i64)) 36 w' w.heap.size (fun k_ => some k_ ≠ (v199 : Value).ownBlock ∧ some k_ ≠ ((.slice Ao29 t208.length co29) : Value).ownBlock) v202 t201) ∧ Aside0 (Kd.R k30 30 w' w.heap.size (fun _ => True) v205 t204) ∧ Aside0 (Kd.R (Kd.int .i64) 3 w' w.heap.size (fun _ => True) (.slice Ao29 t208.length co29) t208) ∧ Aside0 (Below w.heap.size w w'))
     case atStart => exact ⟨(0), aq4, H', ⟨Nat.le_refl _⟩, ⟨aq9⟩, ⟨aq10⟩, ⟨aq6⟩, ⟨aq14⟩, ⟨aq0⟩⟩
     case round =>
      clear H'
      obtain ⟨x12_3, rfl, HA, HK3, HO_5, HO_6, HO_7, HO_9, HB⟩ := hrel
      cases gk with
      | zero => exact absurd HA.out (by simp [palinglaw15_LiveFlows.l2])
      | succ k3 =>
       have H := HA.out
       clear HA
       simp only [palinglaw15_LiveFlows.l2] at H
       by_cases c30 : 0 ≤ x8_1
       rotate_left
       ·rw [if_neg c30] at H
        exact absurd H (by simp)
       rw [if_pos c30] at H
       have c30b0 : decide (0 ≤ x8_1) = true := decide_eq_true c30
       clear c30
       by_cases c31 : x8_1 < (t198.length : Int)
       rotate_left
       ·rw [if_neg c31] at H
        exact absurd H (by simp)
       rw [if_pos c31] at H
       have c31b0 : decide (x8_1 < (t198.length : Int)) = true := decide_eq_true c31
       clear c31
       by_cases c32 : x12_3 < ((rd_L5 t198 x8_1).length : Int)
       ·rw [if_pos c32] at H
        have c32b0 : decide (x12_3 < ((rd_L5 t198 x8_1).length : Int)) = true := decide_eq_true c32
        clear c32
        by_cases c33 : 0 ≤ x12_3
        rotate_left
        ·rw [if_neg c33] at H
         exact absurd H (by simp)
        rw [if_pos c33] at H
        have c33b0 : decide (0 ≤ x12_3) = true := decide_eq_true c33
        clear c33
        have H' := Aside0.mk H
        clear H
        obtain ⟨Ao34, co34, eo34⟩ := Kd.S_slice HO_5.out
        subst eo34
        have p216 : 0 ≤ (x8_1 : Int) := of_decide_eq_true aq1
        have q216 : x8_1 < (t198.length : Int) := of_decide_eq_true aq1
        obtain ⟨ad216, A216_0, c216_0, e216, hx216_0, hl216_0, hi216_0⟩ := at_L5 (Kd.S_reads' HO_5.out).2.2 x8_1 p216 q216
        cases e216
        obtain ⟨ce216, hce216, hMe216, hcc216⟩ := Kd.S_get HO_5.out [] x8_1 p216 (by first | exact q216 | exact of_decide_eq_true aq1 | (have e_ := (Kd.S_reads' HO_5.out).1; omega))
        obtain ⟨ve216_0, rfl, ge216_0⟩ := hMe216
        have hv216_0 := hcc216 0 _ rfl
        rw [Nat.add_zero, show ((Kd.slice 3 (Kd.int .i64))).sz = 1 from rfl, Nat.mul_one] at hv216_0
        replace hv216_0 := Option.some.inj (hv216_0.symm.trans hx216_0)
        rw [hv216_0] at ge216_0
        have HL216_0 := Aside0.mk (show Kd.R (Kd.int .i64) 3 _ _ _ _ (rd_L5 t198 x8_1) from ge216_0)
        clear hv216_0 ge216_0 hcc216 hce216
        have HR216_0 := Aside0.mk hi216_0
        have HC216_0 := Aside0.mk hl216_0
        clear hi216_0 hl216_0
        replace p216 := eq_true p216
        replace q216 := eq_true q216
        have p217 : 0 ≤ (x8_1 : Int) := of_decide_eq_true aq1
        have q217 : x8_1 < (t198.length : Int) := of_decide_eq_true aq1
        obtain ⟨ad217, A217_0, c217_0, e217, hx217_0, hl217_0, hi217_0⟩ := at_L5 (Kd.S_reads' HO_5.out).2.2 x8_1 p217 q217
        obtain rfl : ad216 = ad217 := (by injection e217)
        obtain ⟨ce217, hce217, hMe217, hcc217⟩ := Kd.S_get HO_5.out [] x8_1 p217 (by first | exact q217 | exact of_decide_eq_true aq1 | (have e_ := (Kd.S_reads' HO_5.out).1; omega))
        obtain ⟨ve217_0, rfl, ge217_0⟩ := hMe217
        have hv217_0 := hcc217 0 _ rfl
        rw [Nat.add_zero, show ((Kd.slice 3 (Kd.int .i64))).sz = 1 from rfl, Nat.mul_one] at hv217_0
        replace hv217_0 := Option.some.inj (hv217_0.symm.trans hx217_0)
        rw [hv217_0] at ge217_0
        have HL217_0 := Aside0.mk (show Kd.R (Kd.int .i64) 3 _ _ _ _ (rd_L5 t198 x8_1) from ge217_0)
        clear hv217_0 ge217_0 hcc217 hce217
        have HR217_0 := Aside0.mk hi217_0
        have HC217_0 := Aside0.mk hl217_0
        clear hi217_0 hl217_0
        replace p217 := eq_true p217
        replace q217 := eq_true q217
        have ea_ := Option.some.inj (hx216_0.symm.trans hx217_0)
        injection ea_ with ea_ en_ ec_
        subst ea_
        subst ec_
        clear en_
        have p218 : 0 ≤ (x12_3 : Int) := of_decide_eq_true aq1
        have q218 : x12_3 < ((rd_L5 t198 x8_1).length : Int) := of_decide_eq_true aq1
        obtain ⟨ad218, e218, hx218_0⟩ := Kd.at_int aq15 x12_3 p218 q218
        cases e218
        replace p218 := eq_true p218
        replace q218 := eq_true q218
        go_wp2
        repeat (go_quiet (fail); try go_wp2)
        go_loopg [14, 15] k3 (fun kq v14 v15 w' => ∃ (x14_4 : Bool) (x15_4 : Int), v14 = .bool x14_4 ∧ v15 = .int .i64 x15_4 ∧ Aside0 (palinglaw15_LiveFlows.l3 kq l0 t198 t201 t204 x8_1 t208 t212 x12_3 (rd (rd_L5 t198 x8_1) x12_3) x14_4 x15_4 = some r) ∧ Aside0 (kq ≤ k3) ∧ Aside0 (Kd.S (Kd.slice 3 (Kd.int .i64)) 36 w' w.heap.size (fun k_ => some k_ ≠ (v202 : Value).ownBlock ∧ some k_ ≠ ((.slice Ao29 t208.length co29) : Value).ownBlock) (.slice (some ad216) t198.length co34) t198) ∧ Aside0 (Kd.S (Kd.slice 3 (Kd.int .i64)) 36 w' w.heap.size (fun k_ => some k_ ≠ ((.slice (some ad216) t198.length co34) : Value).ownBlock ∧ some k_ ≠ ((.slice Ao29 t208.length co29) : Value).ownBlock) v202 t201) ∧ Aside0 (Kd.R k30 30 w' w.heap.size (fun _ => True) v205 t204) ∧ Aside0 (Kd.R (Kd.int .i64) 3 w' w.heap.size (fun _ => True) (.slice Ao29 t208.length co29) t208) ∧ Aside0 (Kd.C (Kd.int .i64) w' (some ad218) (rd_L5 t198 x8_1).length (rd_L5 t198 x8_1)) ∧ Aside0 (Kd.C (Kd.int .i64) w' (some ad218) (rd_L5 t198 x8_1).length (rd_L5 t198 x8_1)) ∧ Aside0 (Below w.heap.size w w'))
        case atStart => exact ⟨(false), (0), aq4, aq4, H', ⟨Nat.le_refl _⟩, ⟨aq9⟩, ⟨aq10⟩, ⟨aq6⟩, ⟨aq14⟩, ⟨aq5⟩, ⟨aq15⟩, ⟨aq0⟩⟩
        case round =>
         clear H'
         obtain ⟨x14_4, x15_4, rfl, rfl, HA, HK4, HO_5, HO_6, HO_7, HO_9, HR216_0, HR217_0, HB⟩ := hrel
         cases gk with
         | zero => exact absurd HA.out (by simp [palinglaw15_LiveFlows.l3])
         | succ k4 =>
          have H := HA.out
          clear HA
          simp only [palinglaw15_LiveFlows.l3] at H
          by_cases c35 : x15_4 < (t204.length : Int)
          ·rw [if_pos c35] at H
           have c35b0 : decide (x15_4 < (t204.length : Int)) = true := decide_eq_true c35
           clear c35
           by_cases c36 : x14_4 = true
           ·subst c36
            rw [if_pos rfl] at H
            have H' := Aside0.mk H
            clear H
            obtain ⟨Ao37, co37, eo37⟩ := Kd.R_slice HO_7.out
            subst eo37
            go_wp2
            repeat (go_quiet (fail); try go_wp2)
            go_roundg k4
            case measure => have := HK1.out; have := HK2.out; have := HK3.out; have := HK4.out; omega
            case rel => exact ⟨(true), (wrap64 (x15_4 + 1)), aq4, aq4, H', ⟨aq37⟩, ⟨aq9⟩, ⟨aq10⟩, ⟨aq6⟩, ⟨aq14⟩, ⟨aq5⟩, ⟨aq15⟩, ⟨aq0⟩⟩
           replace c36 := Bool.eq_false_iff.mpr c36
           subst c36
           rw [if_neg nf_] at H
           by_cases c38 : 0 ≤ x15_4
           rotate_left
           ·rw [if_neg c38] at H
            exact absurd H (by simp)
           rw [if_pos c38] at H
           have c38b0 : decide (0 ≤ x15_4) = true := decide_eq_true c38
           clear c38
           by_cases c39 : ((rd_T30 t204 x15_4).f0) = (rd (rd_L5 t198 x8_1) x12_3)
           rotate_left
           ·rw [if_neg c39] at H
            have c39b0 : (((rd_T30 t204 x15_4).f0) == (rd (rd_L5 t198 x8_1) x12_3)) = false := beq_eq_false_iff_ne.mpr c39
            have c39b1 : (((rd_T30 t204 x15_4).f0) != (rd (rd_L5 t198 x8_1) x12_3)) = true := bne_iff_ne.mpr c39
            have H' := Aside0.mk H
            clear H
            obtain ⟨Ao43, co43, eo43⟩ := Kd.R_slice HO_7.out
            subst eo43
            have p219 : 0 ≤ (x15_4 : Int) := of_decide_eq_true aq1
            have q219 : x15_4 < (t204.length : Int) := of_decide_eq_true aq1
            obtain ⟨ad219, e219, hx219_0, hx219_1, hx219_2⟩ := at_T30 (Kd.R_reads' HO_7.out).2.2 x15_4 p219 q219
            cases e219
            replace p219 := eq_true p219
            replace q219 := eq_true q219
            go_wp2
            repeat (go_quiet (fail); try go_wp2)
            go_roundg k4
            case measure => have := HK1.out; have := HK2.out; have := HK3.out; have := HK4.out; omega
            case rel => exact ⟨(false), (wrap64 (x15_4 + 1)), aq4, aq4, H', ⟨aq37⟩, ⟨aq9⟩, ⟨aq10⟩, ⟨aq6⟩, ⟨aq14⟩, ⟨aq5⟩, ⟨aq15⟩, ⟨aq0⟩⟩
           rw [if_pos c39] at H
           have c39b0 : (((rd_T30 t204 x15_4).f0) == (rd (rd_L5 t198 x8_1) x12_3)) = true := beq_iff_eq.mpr c39
           have c39b1 : (((rd_T30 t204 x15_4).f0) != (rd (rd_L5 t198 x8_1) x12_3)) = false := bne_eq_false_iff_eq.mpr c39
           clear c39
           by_cases c40 : ((rd_T30 t204 x15_4).f1) ≤ x8_1
           rotate_left
           ·rw [if_neg c40] at H
            have c40b0 : decide (((rd_T30 t204 x15_4).f1) ≤ x8_1) = false := decide_eq_false c40
            clear c40
            have H' := Aside0.mk H
            clear H
            obtain ⟨Ao42, co42, eo42⟩ := Kd.R_slice HO_7.out
            subst eo42
            have p219 : 0 ≤ (x15_4 : Int) := of_decide_eq_true aq1
            have q219 : x15_4 < (t204.length : Int) := of_decide_eq_true aq1
            obtain ⟨ad219, e219, hx219_0, hx219_1, hx219_2⟩ := at_T30 (Kd.R_reads' HO_7.out).2.2 x15_4 p219 q219
            cases e219
            replace p219 := eq_true p219
            replace q219 := eq_true q219
            have p220 : 0 ≤ (x15_4 : Int) := of_decide_eq_true aq1
            have q220 : x15_4 < (t204.length : Int) := of_decide_eq_true aq1
            obtain ⟨ad220, e220, hx220_0, hx220_1, hx220_2⟩ := at_T30 (Kd.R_reads' HO_7.out).2.2 x15_4 p220 q220
            obtain rfl : ad219 = ad220 := (by injection e220)
            replace p220 := eq_true p220
            replace q220 := eq_true q220
            go_wp2
            repeat (go_quiet (fail); try go_wp2)
            go_roundg k4
            case measure => have := HK1.out; have := HK2.out; have := HK3.out; have := HK4.out; omega
            case rel => exact ⟨(false), (wrap64 (x15_4 + 1)), aq4, aq4, H', ⟨aq37⟩, ⟨aq9⟩, ⟨aq10⟩, ⟨aq6⟩, ⟨aq14⟩, ⟨aq5⟩, ⟨aq15⟩, ⟨aq0⟩⟩
           rw [if_pos c40] at H
           have c40b0 : decide (((rd_T30 t204 x15_4).f1) ≤ x8_1) = true := decide_eq_true c40
           clear c40
           have H' := Aside0.mk H
           clear H
           obtain ⟨Ao41, co41, eo41⟩ := Kd.R_slice HO_7.out
           subst eo41
           have p219 : 0 ≤ (x15_4 : Int) := of_decide_eq_true aq1
           have q219 : x15_4 < (t204.length : Int) := of_decide_eq_true aq1
           obtain ⟨ad219, e219, hx219_0, hx219_1, hx219_2⟩ := at_T30 (Kd.R_reads' HO_7.out).2.2 x15_4 p219 q219
           cases e219
           replace p219 := eq_true p219
           replace q219 := eq_true q219
           have p220 : 0 ≤ (x15_4 : Int) := of_decide_eq_true aq1
           have q220 : x15_4 < (t204.length : Int) := of_decide_eq_true aq1
           obtain ⟨ad220, e220, hx220_0, hx220_1, hx220_2⟩ := at_T30 (Kd.R_reads' HO_7.out).2.2 x15_4 p220 q220
           obtain rfl : ad219 = ad220 := (by injection e220)
           replace p220 := eq_true p220
           replace q220 := eq_true q220
           have p221 : 0 ≤ (x15_4 : Int) := of_decide_eq_true aq1
           have q221 : x15_4 < (t204.length : Int) := of_decide_eq_true aq1
           obtain ⟨ad221, e221, hx221_0, hx221_1, hx221_2⟩ := at_T30 (Kd.R_reads' HO_7.out).2.2 x15_4 p221 q221
           obtain rfl : ad219 = ad221 := (by injection e221)
           replace p221 := eq_true p221
           replace q221 := eq_true q221
           go_wp2
           repeat (go_quiet (fail); try go_wp2)
           go_roundg k4
           case measure => have := HK1.out; have := HK2.out; have := HK3.out; have := HK4.out; omega
           case rel => exact ⟨(decide (x8_1 ≤ ((rd_T30 t204 x15_4).f2))), (wrap64 (x15_4 + 1)), aq4, aq4, H', ⟨aq37⟩, ⟨aq9⟩, ⟨aq10⟩, ⟨aq6⟩, ⟨aq14⟩, ⟨aq5⟩, ⟨aq15⟩, ⟨aq0⟩⟩
          rw [if_neg c35] at H
          have c35b0 : decide (x15_4 < (t204.length : Int)) = false := decide_eq_false c35
          clear c35
          by_cases c44 : x14_4 = true
          rotate_left
          ·replace c44 := Bool.eq_false_iff.mpr c44
           subst c44
           rw [if_neg nf_] at H
           exact absurd H (by simp)
          subst c44
          rw [if_pos rfl] at H
          obtain ⟨t222, A45, H⟩ := bS_ H
          by_cases c46 : t222 = true
          ·subst c46
           rw [if_pos rfl] at H
           have H' := Aside0.mk H
           clear H
           obtain ⟨Ao47, co47, eo47⟩ := Kd.R_slice HO_7.out
           subst eo47
           go_wp2_with (first | (go_at_call 20; (with_reducible refine (palinglaw15_has.calls k4 _ _ t208 (rd (rd_L5 t198 x8_1) x12_3) true _ ?side1 ?side2 A45.out).mono ?_); (case side1 => repeat (first | exact (Kd.R_reads' HO_9.out).2.2 | (with_reducible refine Kd.C_alloc ?_ _) | (with_reducible refine Kd.C_drewN ?_ _) | (with_reducible refine Kd.C_drew ?_))); (case side2 => exact (Kd.R_reads' HO_9.out).2.1); rintro e w' ⟨rfl, ⟨nd, rfl⟩⟩; (try first | exact ⟨rfl, _, World.drewN_drewN _ _ _⟩ | exact ⟨rfl, _, Eq.trans (World.drewN_drewN _ _ _) (congrArg (World.drewN _) (Nat.add_assoc _ _ _))⟩)))
           repeat (go_quiet (first | (go_at_call 20; (with_reducible refine (palinglaw15_has.calls k4 _ _ t208 (rd (rd_L5 t198 x8_1) x12_3) true _ ?side1 ?side2 A45.out).mono ?_); (case side1 => repeat (first | exact (Kd.R_reads' HO_9.out).2.2 | (with_reducible refine Kd.C_alloc ?_ _) | (with_reducible refine Kd.C_drewN ?_ _) | (with_reducible refine Kd.C_drew ?_))); (case side2 => exact (Kd.R_reads' HO_9.out).2.1); rintro e w' ⟨rfl, ⟨nd, rfl⟩⟩; (try first | exact ⟨rfl, _, World.drewN_drewN _ _ _⟩ | exact ⟨rfl, _, Eq.trans (World.drewN_drewN _ _ _) (congrArg (World.drewN _) (Nat.add_assoc _ _ _))⟩))); try go_wp2_with (first | (go_at_call 20; (with_reducible refine (palinglaw15_has.calls k4 _ _ t208 (rd (rd_L5 t198 x8_1) x12_3) true _ ?side1 ?side2 A45.out).mono ?_); (case side1 => repeat (first | exact (Kd.R_reads' HO_9.out).2.2 | (with_reducible refine Kd.C_alloc ?_ _) | (with_reducible refine Kd.C_drewN ?_ _) | (with_reducible refine Kd.C_drew ?_))); (case side2 => exact (Kd.R_reads' HO_9.out).2.1); rintro e w' ⟨rfl, ⟨nd, rfl⟩⟩; (try first | exact ⟨rfl, _, World.drewN_drewN _ _ _⟩ | exact ⟨rfl, _, Eq.trans (World.drewN_drewN _ _ _) (congrArg (World.drewN _) (Nat.add_assoc _ _ _))⟩))))
           go_roundg k4
           case measure => have := HK1.out; have := HK2.out; have := HK3.out; have := HK4.out; omega
           case rel => exact ⟨(wrap64 (x12_3 + 1)), aq4, H', ⟨aq37⟩, ⟨aq9⟩, ⟨aq10⟩, ⟨aq6⟩, ⟨aq14⟩, ⟨aq0⟩⟩
          replace c46 := Bool.eq_false_iff.mpr c46
          subst c46
          rw [if_neg nf_] at H
          by_cases c48 : 0 ≤ x8_1
          rotate_left
          ·rw [if_neg c48] at H
           exact absurd H (by simp)
          rw [if_pos c48] at H
          have c48b0 : decide (0 ≤ x8_1) = true := decide_eq_true c48
          clear c48
          by_cases c49 : x8_1 < (t201.length : Int)
          rotate_left
          ·rw [if_neg c49] at H
           exact absurd H (by simp)
          rw [if_pos c49] at H
          have c49b0 : decide (x8_1 < (t201.length : Int)) = true := decide_eq_true c49
          clear c49
          obtain ⟨t224, A50, H⟩ := bS_ H
          by_cases c51 : t224 = true
          rotate_left
          ·replace c51 := Bool.eq_false_iff.mpr c51
           subst c51
           rw [if_neg nf_] at H
           exact absurd H (by simp)
          subst c51
          rw [if_pos rfl] at H
          by_cases c52 : t212 = (rd (rd_L5 t198 x8_1) x12_3)
          ·rw [if_pos c52] at H
           have c52b0 : (t212 == (rd (rd_L5 t198 x8_1) x12_3)) = true := beq_iff_eq.mpr c52
           have c52b1 : (t212 != (rd (rd_L5 t198 x8_1) x12_3)) = false := bne_eq_false_iff_eq.mpr c52
           clear c52
           obtain rfl := Option.some.inj H
           obtain ⟨Ao53, co53, eo53⟩ := Kd.R_slice HO_7.out
           subst eo53
           go_wp2_with (first | (go_at_call 20; (with_reducible refine (palinglaw15_has.calls k4 _ _ t208 (rd (rd_L5 t198 x8_1) x12_3) false _ ?side1 ?side2 A45.out).mono ?_); (case side1 => repeat (first | exact (Kd.R_reads' HO_9.out).2.2 | (with_reducible refine Kd.C_alloc ?_ _) | (with_reducible refine Kd.C_drewN ?_ _) | (with_reducible refine Kd.C_drew ?_))); (case side2 => exact (Kd.R_reads' HO_9.out).2.1); rintro e w' ⟨rfl, ⟨nd, rfl⟩⟩; (try first | exact ⟨rfl, _, World.drewN_drewN _ _ _⟩ | exact ⟨rfl, _, Eq.trans (World.drewN_drewN _ _ _) (congrArg (World.drewN _) (Nat.add_assoc _ _ _))⟩); obtain ⟨Ao54, co54, eo54⟩ := Kd.S_slice HO_6.out; subst eo54; have p223 : 0 ≤ (x8_1 : Int) := of_decide_eq_true aq1; have q223 : x8_1 < (t201.length : Int) := of_decide_eq_true aq1; obtain ⟨ad223, A223_0, c223_0, e223, hx223_0, hl223_0, hi223_0⟩ := at_L5 (Kd.S_reads' HO_6.out).2.2 x8_1 p223 q223; cases e223; obtain ⟨ce223, hce223, hMe223, hcc223⟩ := Kd.S_get HO_6.out [] x8_1 p223 aq21; obtain ⟨ve223_0, rfl, ge223_0⟩ := hMe223; have hv223_0 := hcc223 0 _ rfl; rw [Nat.add_zero, show ((Kd.slice 3 (Kd.int .i64))).sz = 1 from rfl, Nat.mul_one] at hv223_0; replace hv223_0 := Option.some.inj (hv223_0.symm.trans hx223_0); rw [hv223_0] at ge223_0; have HL223_0 := Aside0.mk (show Kd.R (Kd.int .i64) 3 _ _ _ _ (rd_L5 t201 x8_1) from ge223_0); clear hv223_0 ge223_0; clear hcc223 hce223; have HR223_0 := Aside0.mk hi223_0; have HC223_0 := Aside0.mk hl223_0; clear hi223_0 hl223_0; replace p223 := eq_true p223; replace q223 := eq_true q223) | (go_at_call 20; (with_reducible refine (palinglaw15_has.calls k4 _ _ (rd_L5 t201 x8_1) (rd (rd_L5 t198 x8_1) x12_3) true _ ?side1 ?side2 A50.out).mono ?_); (case side1 => repeat (first | exact aq16 | (with_reducible refine Kd.C_alloc ?_ _) | (with_reducible refine Kd.C_drewN ?_ _) | (with_reducible refine Kd.C_drew ?_))); (case side2 => exact HC223_0.out); rintro e w' ⟨rfl, ⟨nd, rfl⟩⟩; (try first | exact ⟨rfl, _, World.drewN_drewN _ _ _⟩ | exact ⟨rfl, _, Eq.trans (World.drewN_drewN _ _ _) (congrArg (World.drewN _) (Nat.add_assoc _ _ _))⟩)))
           repeat (go_quiet (first | (go_at_call 20; (with_reducible refine (palinglaw15_has.calls k4 _ _ t208 (rd (rd_L5 t198 x8_1) x12_3) false _ ?side1 ?side2 A45.out).mono ?_); (case side1 => repeat (first | exact (Kd.R_reads' HO_9.out).2.2 | (with_reducible refine Kd.C_alloc ?_ _) | (with_reducible refine Kd.C_drewN ?_ _) | (with_reducible refine Kd.C_drew ?_))); (case side2 => exact (Kd.R_reads' HO_9.out).2.1); rintro e w' ⟨rfl, ⟨nd, rfl⟩⟩; (try first | exact ⟨rfl, _, World.drewN_drewN _ _ _⟩ | exact ⟨rfl, _, Eq.trans (World.drewN_drewN _ _ _) (congrArg (World.drewN _) (Nat.add_assoc _ _ _))⟩); obtain ⟨Ao54, co54, eo54⟩ := Kd.S_slice HO_6.out; subst eo54; have p223 : 0 ≤ (x8_1 : Int) := of_decide_eq_true aq1; have q223 : x8_1 < (t201.length : Int) := of_decide_eq_true aq1; obtain ⟨ad223, A223_0, c223_0, e223, hx223_0, hl223_0, hi223_0⟩ := at_L5 (Kd.S_reads' HO_6.out).2.2 x8_1 p223 q223; cases e223; obtain ⟨ce223, hce223, hMe223, hcc223⟩ := Kd.S_get HO_6.out [] x8_1 p223 aq21; obtain ⟨ve223_0, rfl, ge223_0⟩ := hMe223; have hv223_0 := hcc223 0 _ rfl; rw [Nat.add_zero, show ((Kd.slice 3 (Kd.int .i64))).sz = 1 from rfl, Nat.mul_one] at hv223_0; replace hv223_0 := Option.some.inj (hv223_0.symm.trans hx223_0); rw [hv223_0] at ge223_0; have HL223_0 := Aside0.mk (show Kd.R (Kd.int .i64) 3 _ _ _ _ (rd_L5 t201 x8_1) from ge223_0); clear hv223_0 ge223_0; clear hcc223 hce223; have HR223_0 := Aside0.mk hi223_0; have HC223_0 := Aside0.mk hl223_0; clear hi223_0 hl223_0; replace p223 := eq_true p223; replace q223 := eq_true q223) | (go_at_call 20; (with_reducible refine (palinglaw15_has.calls k4 _ _ (rd_L5 t201 x8_1) (rd (rd_L5 t198 x8_1) x12_3) true _ ?side1 ?side2 A50.out).mono ?_); (case side1 => repeat (first | exact aq16 | (with_reducible refine Kd.C_alloc ?_ _) | (with_reducible refine Kd.C_drewN ?_ _) | (with_reducible refine Kd.C_drew ?_))); (case side2 => exact HC223_0.out); rintro e w' ⟨rfl, ⟨nd, rfl⟩⟩; (try first | exact ⟨rfl, _, World.drewN_drewN _ _ _⟩ | exact ⟨rfl, _, Eq.trans (World.drewN_drewN _ _ _) (congrArg (World.drewN _) (Nat.add_assoc _ _ _))⟩))); try go_wp2_with (first | (go_at_call 20; (with_reducible refine (palinglaw15_has.calls k4 _ _ t208 (rd (rd_L5 t198 x8_1) x12_3) false _ ?side1 ?side2 A45.out).mono ?_); (case side1 => repeat (first | exact (Kd.R_reads' HO_9.out).2.2 | (with_reducible refine Kd.C_alloc ?_ _) | (with_reducible refine Kd.C_drewN ?_ _) | (with_reducible refine Kd.C_drew ?_))); (case side2 => exact (Kd.R_reads' HO_9.out).2.1); rintro e w' ⟨rfl, ⟨nd, rfl⟩⟩; (try first | exact ⟨rfl, _, World.drewN_drewN _ _ _⟩ | exact ⟨rfl, _, Eq.trans (World.drewN_drewN _ _ _) (congrArg (World.drewN _) (Nat.add_assoc _ _ _))⟩); obtain ⟨Ao54, co54, eo54⟩ := Kd.S_slice HO_6.out; subst eo54; have p223 : 0 ≤ (x8_1 : Int) := of_decide_eq_true aq1; have q223 : x8_1 < (t201.length : Int) := of_decide_eq_true aq1; obtain ⟨ad223, A223_0, c223_0, e223, hx223_0, hl223_0, hi223_0⟩ := at_L5 (Kd.S_reads' HO_6.out).2.2 x8_1 p223 q223; cases e223; obtain ⟨ce223, hce223, hMe223, hcc223⟩ := Kd.S_get HO_6.out [] x8_1 p223 aq21; obtain ⟨ve223_0, rfl, ge223_0⟩ := hMe223; have hv223_0 := hcc223 0 _ rfl; rw [Nat.add_zero, show ((Kd.slice 3 (Kd.int .i64))).sz = 1 from rfl, Nat.mul_one] at hv223_0; replace hv223_0 := Option.some.inj (hv223_0.symm.trans hx223_0); rw [hv223_0] at ge223_0; have HL223_0 := Aside0.mk (show Kd.R (Kd.int .i64) 3 _ _ _ _ (rd_L5 t201 x8_1) from ge223_0); clear hv223_0 ge223_0; clear hcc223 hce223; have HR223_0 := Aside0.mk hi223_0; have HC223_0 := Aside0.mk hl223_0; clear hi223_0 hl223_0; replace p223 := eq_true p223; replace q223 := eq_true q223) | (go_at_call 20; (with_reducible refine (palinglaw15_has.calls k4 _ _ (rd_L5 t201 x8_1) (rd (rd_L5 t198 x8_1) x12_3) true _ ?side1 ?side2 A50.out).mono ?_); (case side1 => repeat (first | exact aq16 | (with_reducible refine Kd.C_alloc ?_ _) | (with_reducible refine Kd.C_drewN ?_ _) | (with_reducible refine Kd.C_drew ?_))); (case side2 => exact HC223_0.out); rintro e w' ⟨rfl, ⟨nd, rfl⟩⟩; (try first | exact ⟨rfl, _, World.drewN_drewN _ _ _⟩ | exact ⟨rfl, _, Eq.trans (World.drewN_drewN _ _ _) (congrArg (World.drewN _) (Nat.add_assoc _ _ _))⟩))))
           go_ret
           exact ⟨aq11, aq0⟩
          rw [if_neg c52] at H
          have c52b0 : (t212 == (rd (rd_L5 t198 x8_1) x12_3)) = false := beq_eq_false_iff_ne.mpr c52
          have c52b1 : (t212 != (rd (rd_L5 t198 x8_1) x12_3)) = true := bne_iff_ne.mpr c52
          have H' := Aside0.mk H
          clear H
          obtain ⟨Ao55, co55, eo55⟩ := Kd.R_slice HO_7.out
          subst eo55
          go_wp2_with (first | (go_at_call 20; (with_reducible refine (palinglaw15_has.calls k4 _ _ t208 (rd (rd_L5 t198 x8_1) x12_3) false _ ?side1 ?side2 A45.out).mono ?_); (case side1 => repeat (first | exact (Kd.R_reads' HO_9.out).2.2 | (with_reducible refine Kd.C_alloc ?_ _) | (with_reducible refine Kd.C_drewN ?_ _) | (with_reducible refine Kd.C_drew ?_))); (case side2 => exact (Kd.R_reads' HO_9.out).2.1); rintro e w' ⟨rfl, ⟨nd, rfl⟩⟩; (try first | exact ⟨rfl, _, World.drewN_drewN _ _ _⟩ | exact ⟨rfl, _, Eq.trans (World.drewN_drewN _ _ _) (congrArg (World.drewN _) (Nat.add_assoc _ _ _))⟩); obtain ⟨Ao56, co56, eo56⟩ := Kd.S_slice HO_6.out; subst eo56; have p223 : 0 ≤ (x8_1 : Int) := of_decide_eq_true aq1; have q223 : x8_1 < (t201.length : Int) := of_decide_eq_true aq1; obtain ⟨ad223, A223_0, c223_0, e223, hx223_0, hl223_0, hi223_0⟩ := at_L5 (Kd.S_reads' HO_6.out).2.2 x8_1 p223 q223; cases e223; obtain ⟨ce223, hce223, hMe223, hcc223⟩ := Kd.S_get HO_6.out [] x8_1 p223 aq21; obtain ⟨ve223_0, rfl, ge223_0⟩ := hMe223; have hv223_0 := hcc223 0 _ rfl; rw [Nat.add_zero, show ((Kd.slice 3 (Kd.int .i64))).sz = 1 from rfl, Nat.mul_one] at hv223_0; replace hv223_0 := Option.some.inj (hv223_0.symm.trans hx223_0); rw [hv223_0] at ge223_0; have HL223_0 := Aside0.mk (show Kd.R (Kd.int .i64) 3 _ _ _ _ (rd_L5 t201 x8_1) from ge223_0); clear hv223_0 ge223_0; clear hcc223 hce223; have HR223_0 := Aside0.mk hi223_0; have HC223_0 := Aside0.mk hl223_0; clear hi223_0 hl223_0; replace p223 := eq_true p223; replace q223 := eq_true q223) | (go_at_call 20; (with_reducible refine (palinglaw15_has.calls k4 _ _ (rd_L5 t201 x8_1) (rd (rd_L5 t198 x8_1) x12_3) true _ ?side1 ?side2 A50.out).mono ?_); (case side1 => repeat (first | exact aq16 | (with_reducible refine Kd.C_alloc ?_ _) | (with_reducible refine Kd.C_drewN ?_ _) | (with_reducible refine Kd.C_drew ?_))); (case side2 => exact HC223_0.out); rintro e w' ⟨rfl, ⟨nd, rfl⟩⟩; (try first | exact ⟨rfl, _, World.drewN_drewN _ _ _⟩ | exact ⟨rfl, _, Eq.trans (World.drewN_drewN _ _ _) (congrArg (World.drewN _) (Nat.add_assoc _ _ _))⟩)))
          repeat (go_quiet (first | (go_at_call 20; (with_reducible refine (palinglaw15_has.calls k4 _ _ t208 (rd (rd_L5 t198 x8_1) x12_3) false _ ?side1 ?side2 A45.out).mono ?_); (case side1 => repeat (first | exact (Kd.R_reads' HO_9.out).2.2 | (with_reducible refine Kd.C_alloc ?_ _) | (with_reducible refine Kd.C_drewN ?_ _) | (with_reducible refine Kd.C_drew ?_))); (case side2 => exact (Kd.R_reads' HO_9.out).2.1); rintro e w' ⟨rfl, ⟨nd, rfl⟩⟩; (try first | exact ⟨rfl, _, World.drewN_drewN _ _ _⟩ | exact ⟨rfl, _, Eq.trans (World.drewN_drewN _ _ _) (congrArg (World.drewN _) (Nat.add_assoc _ _ _))⟩); obtain ⟨Ao56, co56, eo56⟩ := Kd.S_slice HO_6.out; subst eo56; have p223 : 0 ≤ (x8_1 : Int) := of_decide_eq_true aq1; have q223 : x8_1 < (t201.length : Int) := of_decide_eq_true aq1; obtain ⟨ad223, A223_0, c223_0, e223, hx223_0, hl223_0, hi223_0⟩ := at_L5 (Kd.S_reads' HO_6.out).2.2 x8_1 p223 q223; cases e223; obtain ⟨ce223, hce223, hMe223, hcc223⟩ := Kd.S_get HO_6.out [] x8_1 p223 aq21; obtain ⟨ve223_0, rfl, ge223_0⟩ := hMe223; have hv223_0 := hcc223 0 _ rfl; rw [Nat.add_zero, show ((Kd.slice 3 (Kd.int .i64))).sz = 1 from rfl, Nat.mul_one] at hv223_0; replace hv223_0 := Option.some.inj (hv223_0.symm.trans hx223_0); rw [hv223_0] at ge223_0; have HL223_0 := Aside0.mk (show Kd.R (Kd.int .i64) 3 _ _ _ _ (rd_L5 t201 x8_1) from ge223_0); clear hv223_0 ge223_0; clear hcc223 hce223; have HR223_0 := Aside0.mk hi223_0; have HC223_0 := Aside0.mk hl223_0; clear hi223_0 hl223_0; replace p223 := eq_true p223; replace q223 := eq_true q223) | (go_at_call 20; (with_reducible refine (palinglaw15_has.calls k4 _ _ (rd_L5 t201 x8_1) (rd (rd_L5 t198 x8_1) x12_3) true _ ?side1 ?side2 A50.out).mono ?_); (case side1 => repeat (first | exact aq16 | (with_reducible refine Kd.C_alloc ?_ _) | (with_reducible refine Kd.C_drewN ?_ _) | (with_reducible refine Kd.C_drew ?_))); (case side2 => exact HC223_0.out); rintro e w' ⟨rfl, ⟨nd, rfl⟩⟩; (try first | exact ⟨rfl, _, World.drewN_drewN _ _ _⟩ | exact ⟨rfl, _, Eq.trans (World.drewN_drewN _ _ _) (congrArg (World.drewN _) (Nat.add_assoc _ _ _))⟩))); try go_wp2_with (first | (go_at_call 20; (with_reducible refine (palinglaw15_has.calls k4 _ _ t208 (rd (rd_L5 t198 x8_1) x12_3) false _ ?side1 ?side2 A45.out).mono ?_); (case side1 => repeat (first | exact (Kd.R_reads' HO_9.out).2.2 | (with_reducible refine Kd.C_alloc ?_ _) | (with_reducible refine Kd.C_drewN ?_ _) | (with_reducible refine Kd.C_drew ?_))); (case side2 => exact (Kd.R_reads' HO_9.out).2.1); rintro e w' ⟨rfl, ⟨nd, rfl⟩⟩; (try first | exact ⟨rfl, _, World.drewN_drewN _ _ _⟩ | exact ⟨rfl, _, Eq.trans (World.drewN_drewN _ _ _) (congrArg (World.drewN _) (Nat.add_assoc _ _ _))⟩); obtain ⟨Ao56, co56, eo56⟩ := Kd.S_slice HO_6.out; subst eo56; have p223 : 0 ≤ (x8_1 : Int) := of_decide_eq_true aq1; have q223 : x8_1 < (t201.length : Int) := of_decide_eq_true aq1; obtain ⟨ad223, A223_0, c223_0, e223, hx223_0, hl223_0, hi223_0⟩ := at_L5 (Kd.S_reads' HO_6.out).2.2 x8_1 p223 q223; cases e223; obtain ⟨ce223, hce223, hMe223, hcc223⟩ := Kd.S_get HO_6.out [] x8_1 p223 aq21; obtain ⟨ve223_0, rfl, ge223_0⟩ := hMe223; have hv223_0 := hcc223 0 _ rfl; rw [Nat.add_zero, show ((Kd.slice 3 (Kd.int .i64))).sz = 1 from rfl, Nat.mul_one] at hv223_0; replace hv223_0 := Option.some.inj (hv223_0.symm.trans hx223_0); rw [hv223_0] at ge223_0; have HL223_0 := Aside0.mk (show Kd.R (Kd.int .i64) 3 _ _ _ _ (rd_L5 t201 x8_1) from ge223_0); clear hv223_0 ge223_0; clear hcc223 hce223; have HR223_0 := Aside0.mk hi223_0; have HC223_0 := Aside0.mk hl223_0; clear hi223_0 hl223_0; replace p223 := eq_true p223; replace q223 := eq_true q223) | (go_at_call 20; (with_reducible refine (palinglaw15_has.calls k4 _ _ (rd_L5 t201 x8_1) (rd (rd_L5 t198 x8_1) x12_3) true _ ?side1 ?side2 A50.out).mono ?_); (case side1 => repeat (first | exact aq16 | (with_reducible refine Kd.C_alloc ?_ _) | (with_reducible refine Kd.C_drewN ?_ _) | (with_reducible refine Kd.C_drew ?_))); (case side2 => exact HC223_0.out); rintro e w' ⟨rfl, ⟨nd, rfl⟩⟩; (try first | exact ⟨rfl, _, World.drewN_drewN _ _ _⟩ | exact ⟨rfl, _, Eq.trans (World.drewN_drewN _ _ _) (congrArg (World.drewN _) (Nat.add_assoc _ _ _))⟩))))
          go_roundg k4
          case measure => have := HK1.out; have := HK2.out; have := HK3.out; have := HK4.out; omega
          case rel => exact ⟨(wrap64 (x12_3 + 1)), aq4, H', ⟨aq37⟩, ⟨aq9⟩, ⟨aq10⟩, ⟨aq6⟩, ⟨aq14⟩, ⟨aq0⟩⟩
       rw [if_neg c32] at H
       have c32b0 : decide (x12_3 < ((rd_L5 t198 x8_1).length : Int)) = false := decide_eq_false c32
       clear c32
       obtain ⟨t225, A60, H⟩ := bS_ H
       have H' := Aside0.mk H
       clear H
       obtain ⟨Ao61, co61, eo61⟩ := Kd.S_slice HO_5.out
       subst eo61
       have p216 : 0 ≤ (x8_1 : Int) := of_decide_eq_true aq1
       have q216 : x8_1 < (t198.length : Int) := of_decide_eq_true aq1
       obtain ⟨ad216, A216_0, c216_0, e216, hx216_0, hl216_0, hi216_0⟩ := at_L5 (Kd.S_reads' HO_5.out).2.2 x8_1 p216 q216
       cases e216
       obtain ⟨ce216, hce216, hMe216, hcc216⟩ := Kd.S_get HO_5.out [] x8_1 p216 (by first | exact q216 | exact of_decide_eq_true aq1 | (have e_ := (Kd.S_reads' HO_5.out).1; omega))
       obtain ⟨ve216_0, rfl, ge216_0⟩ := hMe216
       have hv216_0 := hcc216 0 _ rfl
       rw [Nat.add_zero, show ((Kd.slice 3 (Kd.int .i64))).sz = 1 from rfl, Nat.mul_one] at hv216_0
       replace hv216_0 := Option.some.inj (hv216_0.symm.trans hx216_0)
       rw [hv216_0] at ge216_0
       have HL216_0 := Aside0.mk (show Kd.R (Kd.int .i64) 3 _ _ _ _ (rd_L5 t198 x8_1) from ge216_0)
       clear hv216_0 ge216_0 hcc216 hce216
       have HR216_0 := Aside0.mk hi216_0
       have HC216_0 := Aside0.mk hl216_0
       clear hi216_0 hl216_0
       replace p216 := eq_true p216
       replace q216 := eq_true q216
       go_wp2_with (first | (go_at_call 21; (with_reducible refine (palingref14_Next.calls k3 _ _ l0 x8_1 t225 _ ?side1 ?side2 A60.out).mono ?_); (case side1 => repeat (first | exact (Kd.C_below HR0.out HB.out) | (with_reducible refine Kd.C_alloc ?_ _) | (with_reducible refine Kd.C_drewN ?_ _) | (with_reducible refine Kd.C_drew ?_))); (case side2 => exact HC0.out); rintro e w62 ⟨v226, rfl, ho0, hb⟩; have n0_ := Aside0.mk (Kd.S_elder' aq9 (Kd.R_base ho0) hb); have n1_ := Aside0.mk (Kd.S_elder' aq10 (Kd.R_base ho0) hb); have n2_ := Aside0.mk (Kd.R_below aq6 hb); have n3_ := Aside0.mk (Kd.R_elder' aq14 (Kd.R_base ho0) hb); have n4_ := Aside0.mk (Kd.R_elder' aq24 (Kd.R_base ho0) hb); have n5_ := Aside0.mk (Kd.R_lower (Kd.R_new' (Kd.R_new' ho0 (Kd.R_lt aq14)) (Kd.R_lt aq24)) (below_size aq0)); have n6_ := Aside0.mk (Kd.C_below aq5 hb); have n7_ := Aside0.mk (below_step aq0 hb); clear HO_5; clear HO_6; clear HO_7; clear HO_9; clear HL216_0; clear HR216_0; clear HB; have HO_5 := n0_; have HO_6 := n1_; have HO_7 := n2_; have HO_9 := n3_; have HL216_0 := n4_; have HO227 := n5_; have HR216_0 := n6_; have HB := n7_; clear n0_ n1_ n2_ n3_ n4_ n5_ n6_ n7_; (try clear hb); (try clear hb2); (try clear hk); (try clear hi); (try clear ho0)))
       repeat (go_quiet (first | (go_at_call 21; (with_reducible refine (palingref14_Next.calls k3 _ _ l0 x8_1 t225 _ ?side1 ?side2 A60.out).mono ?_); (case side1 => repeat (first | exact (Kd.C_below HR0.out HB.out) | (with_reducible refine Kd.C_alloc ?_ _) | (with_reducible refine Kd.C_drewN ?_ _) | (with_reducible refine Kd.C_drew ?_))); (case side2 => exact HC0.out); rintro e w62 ⟨v226, rfl, ho0, hb⟩; have n0_ := Aside0.mk (Kd.S_elder' aq9 (Kd.R_base ho0) hb); have n1_ := Aside0.mk (Kd.S_elder' aq10 (Kd.R_base ho0) hb); have n2_ := Aside0.mk (Kd.R_below aq6 hb); have n3_ := Aside0.mk (Kd.R_elder' aq14 (Kd.R_base ho0) hb); have n4_ := Aside0.mk (Kd.R_elder' aq24 (Kd.R_base ho0) hb); have n5_ := Aside0.mk (Kd.R_lower (Kd.R_new' (Kd.R_new' ho0 (Kd.R_lt aq14)) (Kd.R_lt aq24)) (below_size aq0)); have n6_ := Aside0.mk (Kd.C_below aq5 hb); have n7_ := Aside0.mk (below_step aq0 hb); clear HO_5; clear HO_6; clear HO_7; clear HO_9; clear HL216_0; clear HR216_0; clear HB; have HO_5 := n0_; have HO_6 := n1_; have HO_7 := n2_; have HO_9 := n3_; have HL216_0 := n4_; have HO227 := n5_; have HR216_0 := n6_; have HB := n7_; clear n0_ n1_ n2_ n3_ n4_ n5_ n6_ n7_; (try clear hb); (try clear hb2); (try clear hk); (try clear hi); (try clear ho0))); try go_wp2_with (first | (go_at_call 21; (with_reducible refine (palingref14_Next.calls k3 _ _ l0 x8_1 t225 _ ?side1 ?side2 A60.out).mono ?_); (case side1 => repeat (first | exact (Kd.C_below HR0.out HB.out) | (with_reducible refine Kd.C_alloc ?_ _) | (with_reducible refine Kd.C_drewN ?_ _) | (with_reducible refine Kd.C_drew ?_))); (case side2 => exact HC0.out); rintro e w62 ⟨v226, rfl, ho0, hb⟩; have n0_ := Aside0.mk (Kd.S_elder' aq9 (Kd.R_base ho0) hb); have n1_ := Aside0.mk (Kd.S_elder' aq10 (Kd.R_base ho0) hb); have n2_ := Aside0.mk (Kd.R_below aq6 hb); have n3_ := Aside0.mk (Kd.R_elder' aq14 (Kd.R_base ho0) hb); have n4_ := Aside0.mk (Kd.R_elder' aq24 (Kd.R_base ho0) hb); have n5_ := Aside0.mk (Kd.R_lower (Kd.R_new' (Kd.R_new' ho0 (Kd.R_lt aq14)) (Kd.R_lt aq24)) (below_size aq0)); have n6_ := Aside0.mk (Kd.C_below aq5 hb); have n7_ := Aside0.mk (below_step aq0 hb); clear HO_5; clear HO_6; clear HO_7; clear HO_9; clear HL216_0; clear HR216_0; clear HB; have HO_5 := n0_; have HO_6 := n1_; have HO_7 := n2_; have HO_9 := n3_; have HL216_0 := n4_; have HO227 := n5_; have HR216_0 := n6_; have HB := n7_; clear n0_ n1_ n2_ n3_ n4_ n5_ n6_ n7_; (try clear hb); (try clear hb2); (try clear hk); (try clear hi); (try clear ho0))))
       go_loopg [17] k3 (fun kq v17 w' => ∃ (x17_4 : Int), v17 = .int .i64 x17_4 ∧ Aside0 (palinglaw15_LiveFlows.l4 kq l0 t198 t201 t204 x8_1 t212 t225 x17_4 = some r) ∧ Aside0 (kq ≤ k3) ∧ Aside0 (Kd.S (Kd.slice 3 (Kd.int .i64)) 36 w' w.heap.size (fun k_ => some k_ ≠ (v202 : Value).ownBlock ∧ some k_ ≠ (v226 : Value).ownBlock) (.slice (some ad216) t198.length co61) t198) ∧ Aside0 (Kd.S (Kd.slice 3 (Kd.int .i64)) 36 w' w.heap.size (fun k_ => some k_ ≠ ((.slice (some ad216) t198.length co61) : Value).ownBlock ∧ some k_ ≠ (v226 : Value).ownBlock) v202 t201) ∧ Aside0 (Kd.R k30 30 w' w.heap.size (fun _ => True) v205 t204) ∧ Aside0 (Kd.R (Kd.int .i64) 3 w' w.heap.size (fun _ => True) v226 t225) ∧ Aside0 (Kd.C (Kd.int .i64) w' A216_0 (rd_L5 t198 x8_1).length (rd_L5 t198 x8_1)) ∧ Aside0 (Below w.heap.size w w'))
       case atStart => exact ⟨(0), aq4, H', ⟨Nat.le_refl _⟩, ⟨by (with_reducible repeat (first | apply Kd.S_alloc | apply Kd.S_drewN | apply Kd.S_drew)); exact Kd.S_mono HO_5.out (fun _ hk => ⟨hk.1.1, hk.2⟩)⟩, ⟨by (with_reducible repeat (first | apply Kd.S_alloc | apply Kd.S_drewN | apply Kd.S_drew)); exact Kd.S_mono HO_6.out (fun _ hk => ⟨hk.1.1, hk.2⟩)⟩, ⟨aq6⟩, ⟨by (with_reducible repeat (first | apply Kd.R_alloc | apply Kd.R_drewN | apply Kd.R_drew)); exact Kd.R_mono HO227.out (fun _ hk => trivial)⟩, ⟨aq5⟩, ⟨aq0⟩⟩
       case round =>
        clear H'
        obtain ⟨x17_4, rfl, HA, HK4, HO_5, HO_6, HO_7, HO_16, HR216_0, HB⟩ := hrel
        cases gk with
        | zero => exact absurd HA.out (by simp [palinglaw15_LiveFlows.l4])
        | succ k4 =>
         have H := HA.out
         clear HA
         simp only [palinglaw15_LiveFlows.l4] at H
         by_cases c63 : 0 ≤ x8_1
         rotate_left
         ·rw [if_neg c63] at H
          exact absurd H (by simp)
         rw [if_pos c63] at H
         have c63b0 : decide (0 ≤ x8_1) = true := decide_eq_true c63
         clear c63
         by_cases c64 : x8_1 < (t201.length : Int)
         rotate_left
         ·rw [if_neg c64] at H
          exact absurd H (by simp)
         rw [if_pos c64] at H
         have c64b0 : decide (x8_1 < (t201.length : Int)) = true := decide_eq_true c64
         clear c64
         by_cases c65 : x17_4 < ((rd_L5 t201 x8_1).length : Int)
         rotate_left
         ·rw [if_neg c65] at H
          have c65b0 : decide (x17_4 < ((rd_L5 t201 x8_1).length : Int)) = false := decide_eq_false c65
          clear c65
          have H' := Aside0.mk H
          clear H
          obtain ⟨Ao86, co86, eo86⟩ := Kd.S_slice HO_6.out
          subst eo86
          have p228 : 0 ≤ (x8_1 : Int) := of_decide_eq_true aq1
          have q228 : x8_1 < (t201.length : Int) := of_decide_eq_true aq1
          obtain ⟨ad228, A228_0, c228_0, e228, hx228_0, hl228_0, hi228_0⟩ := at_L5 (Kd.S_reads' HO_6.out).2.2 x8_1 p228 q228
          cases e228
          obtain ⟨ce228, hce228, hMe228, hcc228⟩ := Kd.S_get HO_6.out [] x8_1 p228 (by first | exact q228 | exact of_decide_eq_true aq1 | (have e_ := (Kd.S_reads' HO_6.out).1; omega))
          obtain ⟨ve228_0, rfl, ge228_0⟩ := hMe228
          have hv228_0 := hcc228 0 _ rfl
          rw [Nat.add_zero, show ((Kd.slice 3 (Kd.int .i64))).sz = 1 from rfl, Nat.mul_one] at hv228_0
          replace hv228_0 := Option.some.inj (hv228_0.symm.trans hx228_0)
          rw [hv228_0] at ge228_0
          have HL228_0 := Aside0.mk (show Kd.R (Kd.int .i64) 3 _ _ _ _ (rd_L5 t201 x8_1) from ge228_0)
          clear hv228_0 ge228_0 hcc228 hce228
          have HR228_0 := Aside0.mk hi228_0
          have HC228_0 := Aside0.mk hl228_0
          clear hi228_0 hl228_0
          replace p228 := eq_true p228
          replace q228 := eq_true q228
          go_wp2
          repeat (go_quiet (fail); try go_wp2)
          go_roundg k4
          case measure => have := HK1.out; have := HK2.out; have := HK3.out; have := HK4.out; omega
          case rel => exact ⟨(wrap64 (x8_1 + 1)), aq4, H', ⟨aq37⟩, ⟨by (with_reducible repeat (first | apply Kd.S_alloc | apply Kd.S_drewN | apply Kd.S_drew)); exact Kd.S_mono HO_5.out (fun _ hk => hk.1)⟩, ⟨by (with_reducible repeat (first | apply Kd.S_alloc | apply Kd.S_drewN | apply Kd.S_drew)); exact Kd.S_mono HO_6.out (fun _ hk => hk.1)⟩, ⟨aq6⟩, ⟨aq0⟩⟩
         rw [if_pos c65] at H
         have c65b0 : decide (x17_4 < ((rd_L5 t201 x8_1).length : Int)) = true := decide_eq_true c65
         clear c65
         by_cases c66 : 0 ≤ x17_4
         rotate_left
         ·rw [if_neg c66] at H
          exact absurd H (by simp)
         rw [if_pos c66] at H
         have c66b0 : decide (0 ≤ x17_4) = true := decide_eq_true c66
         clear c66
         have H' := Aside0.mk H
         clear H
         obtain ⟨Ao67, co67, eo67⟩ := Kd.S_slice HO_6.out
         subst eo67
         have p228 : 0 ≤ (x8_1 : Int) := of_decide_eq_true aq1
         have q228 : x8_1 < (t201.length : Int) := of_decide_eq_true aq1
         obtain ⟨ad228, A228_0, c228_0, e228, hx228_0, hl228_0, hi228_0⟩ := at_L5 (Kd.S_reads' HO_6.out).2.2 x8_1 p228 q228
         cases e228
         obtain ⟨ce228, hce228, hMe228, hcc228⟩ := Kd.S_get HO_6.out [] x8_1 p228 (by first | exact q228 | exact of_decide_eq_true aq1 | (have e_ := (Kd.S_reads' HO_6.out).1; omega))
         obtain ⟨ve228_0, rfl, ge228_0⟩ := hMe228
         have hv228_0 := hcc228 0 _ rfl
         rw [Nat.add_zero, show ((Kd.slice 3 (Kd.int .i64))).sz = 1 from rfl, Nat.mul_one] at hv228_0
         replace hv228_0 := Option.some.inj (hv228_0.symm.trans hx228_0)
         rw [hv228_0] at ge228_0
         have HL228_0 := Aside0.mk (show Kd.R (Kd.int .i64) 3 _ _ _ _ (rd_L5 t201 x8_1) from ge228_0)
         clear hv228_0 ge228_0 hcc228 hce228
         have HR228_0 := Aside0.mk hi228_0
         have HC228_0 := Aside0.mk hl228_0
         clear hi228_0 hl228_0
         replace p228 := eq_true p228
         replace q228 := eq_true q228
         have p229 : 0 ≤ (x8_1 : Int) := of_decide_eq_true aq1
         have q229 : x8_1 < (t201.length : Int) := of_decide_eq_true aq1
         obtain ⟨ad229, A229_0, c229_0, e229, hx229_0, hl229_0, hi229_0⟩ := at_L5 (Kd.S_reads' HO_6.out).2.2 x8_1 p229 q229
         obtain rfl : ad228 = ad229 := (by injection e229)
         obtain ⟨ce229, hce229, hMe229, hcc229⟩ := Kd.S_get HO_6.out [] x8_1 p229 (by first | exact q229 | exact of_decide_eq_true aq1 | (have e_ := (Kd.S_reads' HO_6.out).1; omega))
         obtain ⟨ve229_0, rfl, ge229_0⟩ := hMe229
         have hv229_0 := hcc229 0 _ rfl
         rw [Nat.add_zero, show ((Kd.slice 3 (Kd.int .i64))).sz = 1 from rfl, Nat.mul_one] at hv229_0
         replace hv229_0 := Option.some.inj (hv229_0.symm.trans hx229_0)
         rw [hv229_0] at ge229_0
         have HL229_0 := Aside0.mk (show Kd.R (Kd.int .i64) 3 _ _ _ _ (rd_L5 t201 x8_1) from ge229_0)
         clear hv229_0 ge229_0 hcc229 hce229
         have HR229_0 := Aside0.mk hi229_0
         have HC229_0 := Aside0.mk hl229_0
         clear hi229_0 hl229_0
         replace p229 := eq_true p229
         replace q229 := eq_true q229
         have ea_ := Option.some.inj (hx228_0.symm.trans hx229_0)
         injection ea_ with ea_ en_ ec_
         subst ea_
         subst ec_
         clear en_
         have p230 : 0 ≤ (x17_4 : Int) := of_decide_eq_true aq1
         have q230 : x17_4 < ((rd_L5 t201 x8_1).length : Int) := of_decide_eq_true aq1
         obtain ⟨ad230, e230, hx230_0⟩ := Kd.at_int aq23 x17_4 p230 q230
         cases e230
         replace p230 := eq_true p230
         replace q230 := eq_true q230
         go_wp2
         repeat (go_quiet (fail); try go_wp2)
         go_loopg [19, 20] k4 (fun kq v19 v20 w' => ∃ (x19_5 : Bool) (x20_5 : Int), v19 = .bool x19_5 ∧ v20 = .int .i64 x20_5 ∧ Aside0 (palinglaw15_LiveFlows.l5 kq l0 t198 t201 t204 x8_1 t212 t225 x17_4 (rd (rd_L5 t201 x8_1) x17_4) x19_5 x20_5 = some r) ∧ Aside0 (kq ≤ k4) ∧ Aside0 (Kd.S (Kd.slice 3 (Kd.int .i64)) 36 w' w.heap.size (fun k_ => some k_ ≠ ((.slice (some ad228) t201.length co67) : Value).ownBlock ∧ some k_ ≠ (v226 : Value).ownBlock) (.slice (some ad216) t198.length co61) t198) ∧ Aside0 (Kd.S (Kd.slice 3 (Kd.int .i64)) 36 w' w.heap.size (fun k_ => some k_ ≠ ((.slice (some ad216) t198.length co61) : Value).ownBlock ∧ some k_ ≠ (v226 : Value).ownBlock) (.slice (some ad228) t201.length co67) t201) ∧ Aside0 (Kd.R k30 30 w' w.heap.size (fun _ => True) v205 t204) ∧ Aside0 (Kd.R (Kd.int .i64) 3 w' w.heap.size (fun _ => True) v226 t225) ∧ Aside0 (Kd.C (Kd.int .i64) w' A216_0 (rd_L5 t198 x8_1).length (rd_L5 t198 x8_1)) ∧ Aside0 (Kd.C (Kd.int .i64) w' (some ad230) (rd_L5 t201 x8_1).length (rd_L5 t201 x8_1)) ∧ Aside0 (Kd.C (Kd.int .i64) w' (some ad230) (rd_L5 t201 x8_1).length (rd_L5 t201 x8_1)) ∧ Aside0 (Below w.heap.size w w'))
         case atStart => exact ⟨(false), (0), aq4, aq4, H', ⟨Nat.le_refl _⟩, ⟨aq9⟩, ⟨aq10⟩, ⟨aq6⟩, ⟨aq36⟩, ⟨aq5⟩, ⟨aq30⟩, ⟨aq23⟩, ⟨aq0⟩⟩
         case round =>
          clear H'
          obtain ⟨x19_5, x20_5, rfl, rfl, HA, HK5, HO_5, HO_6, HO_7, HO_16, HR216_0, HR228_0, HR229_0, HB⟩ := hrel
          cases gk with
          | zero => exact absurd HA.out (by simp [palinglaw15_LiveFlows.l5])
          | succ k5 =>
           have H := HA.out
           clear HA
           simp only [palinglaw15_LiveFlows.l5] at H
           by_cases c68 : x20_5 < (t225.length : Int)
           rotate_left
           ·rw [if_neg c68] at H
            have c68b0 : decide (x20_5 < (t225.length : Int)) = false := decide_eq_false c68
            clear c68
            by_cases c76 : x19_5 = true
            rotate_left
            ·replace c76 := Bool.eq_false_iff.mpr c76
             subst c76
             rw [if_neg nf_] at H
             exact absurd H (by simp)
            subst c76
            rw [if_pos rfl] at H
            by_cases c77 : (rd (rd_L5 t201 x8_1) x17_4) = t212
            ·rw [if_pos c77] at H
             have c77b0 : ((rd (rd_L5 t201 x8_1) x17_4) == t212) = true := beq_iff_eq.mpr c77
             have c77b1 : ((rd (rd_L5 t201 x8_1) x17_4) != t212) = false := bne_eq_false_iff_eq.mpr c77
             clear c77
             have H' := Aside0.mk H
             clear H
             obtain ⟨Ao78, co78, eo78⟩ := Kd.R_slice HO_16.out
             subst eo78
             go_wp2
             repeat (go_quiet (fail); try go_wp2)
             go_roundg k5
             case measure => have := HK1.out; have := HK2.out; have := HK3.out; have := HK4.out; have := HK5.out; omega
             case rel => exact ⟨(wrap64 (x17_4 + 1)), aq4, H', ⟨aq40⟩, ⟨aq9⟩, ⟨aq10⟩, ⟨aq6⟩, ⟨aq36⟩, ⟨aq5⟩, ⟨aq0⟩⟩
            rw [if_neg c77] at H
            have c77b0 : ((rd (rd_L5 t201 x8_1) x17_4) == t212) = false := beq_eq_false_iff_ne.mpr c77
            have c77b1 : ((rd (rd_L5 t201 x8_1) x17_4) != t212) = true := bne_iff_ne.mpr c77
            by_cases c79 : 0 ≤ x8_1
            rotate_left
            ·rw [if_neg c79] at H
             exact absurd H (by simp)
            rw [if_pos c79] at H
            have c79b0 : decide (0 ≤ x8_1) = true := decide_eq_true c79
            clear c79
            by_cases c80 : x8_1 < (t198.length : Int)
            rotate_left
            ·rw [if_neg c80] at H
             exact absurd H (by simp)
            rw [if_pos c80] at H
            have c80b0 : decide (x8_1 < (t198.length : Int)) = true := decide_eq_true c80
            clear c80
            obtain ⟨t235, A81, H⟩ := bS_ H
            by_cases c82 : t235 = true
            rotate_left
            ·replace c82 := Bool.eq_false_iff.mpr c82
             subst c82
             rw [if_neg nf_] at H
             exact absurd H (by simp)
            subst c82
            rw [if_pos rfl] at H
            have H' := Aside0.mk H
            clear H
            obtain ⟨Ao83, co83, eo83⟩ := Kd.R_slice HO_16.out
            subst eo83
            have p234 : 0 ≤ (x8_1 : Int) := of_decide_eq_true aq1
            have q234 : x8_1 < (t198.length : Int) := of_decide_eq_true aq1
            obtain ⟨ad234, A234_0, c234_0, e234, hx234_0, hl234_0, hi234_0⟩ := at_L5 (Kd.S_reads' HO_5.out).2.2 x8_1 p234 q234
            obtain rfl : ad216 = ad234 := (by injection e234)
            obtain ⟨ce234, hce234, hMe234, hcc234⟩ := Kd.S_get HO_5.out [] x8_1 p234 (by first | exact q234 | exact of_decide_eq_true aq1 | (have e_ := (Kd.S_reads' HO_5.out).1; omega))
            obtain ⟨ve234_0, rfl, ge234_0⟩ := hMe234
            have hv234_0 := hcc234 0 _ rfl
            rw [Nat.add_zero, show ((Kd.slice 3 (Kd.int .i64))).sz = 1 from rfl, Nat.mul_one] at hv234_0
            replace hv234_0 := Option.some.inj (hv234_0.symm.trans hx234_0)
            rw [hv234_0] at ge234_0
            have HL234_0 := Aside0.mk (show Kd.R (Kd.int .i64) 3 _ _ _ _ (rd_L5 t198 x8_1) from ge234_0)
            clear hv234_0 ge234_0 hcc234 hce234
            have HR234_0 := Aside0.mk hi234_0
            have HC234_0 := Aside0.mk hl234_0
            clear hi234_0 hl234_0
            replace p234 := eq_true p234
            replace q234 := eq_true q234
            go_wp2_with (first | (go_at_call 20; (with_reducible refine (palinglaw15_has.calls k5 _ _ (rd_L5 t198 x8_1) (rd (rd_L5 t201 x8_1) x17_4) true _ ?side1 ?side2 A81.out).mono ?_); (case side1 => repeat (first | exact aq31 | (with_reducible refine Kd.C_alloc ?_ _) | (with_reducible refine Kd.C_drewN ?_ _) | (with_reducible refine Kd.C_drew ?_))); (case side2 => exact HC234_0.out); rintro e w' ⟨rfl, ⟨nd, rfl⟩⟩; (try first | exact ⟨rfl, _, World.drewN_drewN _ _ _⟩ | exact ⟨rfl, _, Eq.trans (World.drewN_drewN _ _ _) (congrArg (World.drewN _) (Nat.add_assoc _ _ _))⟩)))
            repeat (go_quiet (first | (go_at_call 20; (with_reducible refine (palinglaw15_has.calls k5 _ _ (rd_L5 t198 x8_1) (rd (rd_L5 t201 x8_1) x17_4) true _ ?side1 ?side2 A81.out).mono ?_); (case side1 => repeat (first | exact aq31 | (with_reducible refine Kd.C_alloc ?_ _) | (with_reducible refine Kd.C_drewN ?_ _) | (with_reducible refine Kd.C_drew ?_))); (case side2 => exact HC234_0.out); rintro e w' ⟨rfl, ⟨nd, rfl⟩⟩; (try first | exact ⟨rfl, _, World.drewN_drewN _ _ _⟩ | exact ⟨rfl, _, Eq.trans (World.drewN_drewN _ _ _) (congrArg (World.drewN _) (Nat.add_assoc _ _ _))⟩))); try go_wp2_with (first | (go_at_call 20; (with_reducible refine (palinglaw15_has.calls k5 _ _ (rd_L5 t198 x8_1) (rd (rd_L5 t201 x8_1) x17_4) true _ ?side1 ?side2 A81.out).mono ?_); (case side1 => repeat (first | exact aq31 | (with_reducible refine Kd.C_alloc ?_ _) | (with_reducible refine Kd.C_drewN ?_ _) | (with_reducible refine Kd.C_drew ?_))); (case side2 => exact HC234_0.out); rintro e w' ⟨rfl, ⟨nd, rfl⟩⟩; (try first | exact ⟨rfl, _, World.drewN_drewN _ _ _⟩ | exact ⟨rfl, _, Eq.trans (World.drewN_drewN _ _ _) (congrArg (World.drewN _) (Nat.add_assoc _ _ _))⟩))))
            go_roundg k5
            case measure => have := HK1.out; have := HK2.out; have := HK3.out; have := HK4.out; have := HK5.out; omega
            case rel => exact ⟨(wrap64 (x17_4 + 1)), aq4, H', ⟨aq40⟩, ⟨aq9⟩, ⟨aq10⟩, ⟨aq6⟩, ⟨aq36⟩, ⟨aq5⟩, ⟨aq0⟩⟩
           rw [if_pos c68] at H
           have c68b0 : decide (x20_5 < (t225.length : Int)) = true := decide_eq_true c68
           clear c68
           by_cases c69 : x19_5 = true
           ·subst c69
            rw [if_pos rfl] at H
            have H' := Aside0.mk H
            clear H
            obtain ⟨Ao70, co70, eo70⟩ := Kd.R_slice HO_16.out
            subst eo70
            go_wp2
            repeat (go_quiet (fail); try go_wp2)
            go_roundg k5
            case measure => have := HK1.out; have := HK2.out; have := HK3.out; have := HK4.out; have := HK5.out; omega
            case rel => exact ⟨(true), (wrap64 (x20_5 + 1)), aq4, aq4, H', ⟨aq40⟩, ⟨aq9⟩, ⟨aq10⟩, ⟨aq6⟩, ⟨aq36⟩, ⟨aq5⟩, ⟨aq30⟩, ⟨aq23⟩, ⟨aq0⟩⟩
           replace c69 := Bool.eq_false_iff.mpr c69
           subst c69
           rw [if_neg nf_] at H
           by_cases c71 : 0 ≤ x20_5
           rotate_left
           ·rw [if_neg c71] at H
            exact absurd H (by simp)
           rw [if_pos c71] at H
           have c71b0 : decide (0 ≤ x20_5) = true := decide_eq_true c71
           clear c71
           by_cases c72 : 0 ≤ (rd t225 x20_5)
           rotate_left
           ·rw [if_neg c72] at H
            exact absurd H (by simp)
           rw [if_pos c72] at H
           have c72b0 : decide (0 ≤ (rd t225 x20_5)) = true := decide_eq_true c72
           clear c72
           by_cases c73 : (rd t225 x20_5) < (t198.length : Int)
           rotate_left
           ·rw [if_neg c73] at H
            exact absurd H (by simp)
           rw [if_pos c73] at H
           have c73b0 : decide ((rd t225 x20_5) < (t198.length : Int)) = true := decide_eq_true c73
           clear c73
           obtain ⟨t233, A74, H⟩ := bS_ H
           have H' := Aside0.mk H
           clear H
           obtain ⟨Ao75, co75, eo75⟩ := Kd.R_slice HO_16.out
           subst eo75
           have p231 : 0 ≤ (x20_5 : Int) := of_decide_eq_true aq1
           have q231 : x20_5 < (t225.length : Int) := of_decide_eq_true aq1
           obtain ⟨ad231, e231, hx231_0⟩ := Kd.at_int (Kd.R_reads' HO_16.out).2.2 x20_5 p231 q231
           cases e231
           replace p231 := eq_true p231
           replace q231 := eq_true q231
           have p232 : 0 ≤ ((rd t225 x20_5) : Int) := of_decide_eq_true aq1
           have q232 : (rd t225 x20_5) < (t198.length : Int) := of_decide_eq_true aq1
           obtain ⟨ad232, A232_0, c232_0, e232, hx232_0, hl232_0, hi232_0⟩ := at_L5 (Kd.S_reads' HO_5.out).2.2 (rd t225 x20_5) p232 q232
           obtain rfl : ad216 = ad232 := (by injection e232)
           obtain ⟨ce232, hce232, hMe232, hcc232⟩ := Kd.S_get HO_5.out [] (rd t225 x20_5) p232 (by first | exact q232 | exact of_decide_eq_true aq1 | (have e_ := (Kd.S_reads' HO_5.out).1; omega))
           obtain ⟨ve232_0, rfl, ge232_0⟩ := hMe232
           have hv232_0 := hcc232 0 _ rfl
           rw [Nat.add_zero, show ((Kd.slice 3 (Kd.int .i64))).sz = 1 from rfl, Nat.mul_one] at hv232_0
           replace hv232_0 := Option.some.inj (hv232_0.symm.trans hx232_0)
           rw [hv232_0] at ge232_0
           have HL232_0 := Aside0.mk (show Kd.R (Kd.int .i64) 3 _ _ _ _ (rd_L5 t198 (rd t225 x20_5)) from ge232_0)
           clear hv232_0 ge232_0 hcc232 hce232
           have HR232_0 := Aside0.mk hi232_0
           have HC232_0 := Aside0.mk hl232_0
           clear hi232_0 hl232_0
           replace p232 := eq_true p232
           replace q232 := eq_true q232
           go_wp2_with (first | (go_at_call 20; (with_reducible refine (palinglaw15_has.calls k5 _ _ (rd_L5 t198 (rd t225 x20_5)) (rd (rd_L5 t201 x8_1) x17_4) t233 _ ?side1 ?side2 A74.out).mono ?_); (case side1 => repeat (first | exact aq32 | (with_reducible refine Kd.C_alloc ?_ _) | (with_reducible refine Kd.C_drewN ?_ _) | (with_reducible refine Kd.C_drew ?_))); (case side2 => exact HC232_0.out); rintro e w' ⟨rfl, ⟨nd, rfl⟩⟩; (try first | exact ⟨rfl, _, World.drewN_drewN _ _ _⟩ | exact ⟨rfl, _, Eq.trans (World.drewN_drewN _ _ _) (congrArg (World.drewN _) (Nat.add_assoc _ _ _))⟩)))
           repeat (go_quiet (first | (go_at_call 20; (with_reducible refine (palinglaw15_has.calls k5 _ _ (rd_L5 t198 (rd t225 x20_5)) (rd (rd_L5 t201 x8_1) x17_4) t233 _ ?side1 ?side2 A74.out).mono ?_); (case side1 => repeat (first | exact aq32 | (with_reducible refine Kd.C_alloc ?_ _) | (with_reducible refine Kd.C_drewN ?_ _) | (with_reducible refine Kd.C_drew ?_))); (case side2 => exact HC232_0.out); rintro e w' ⟨rfl, ⟨nd, rfl⟩⟩; (try first | exact ⟨rfl, _, World.drewN_drewN _ _ _⟩ | exact ⟨rfl, _, Eq.trans (World.drewN_drewN _ _ _) (congrArg (World.drewN _) (Nat.add_assoc _ _ _))⟩))); try go_wp2_with (first | (go_at_call 20; (with_reducible refine (palinglaw15_has.calls k5 _ _ (rd_L5 t198 (rd t225 x20_5)) (rd (rd_L5 t201 x8_1) x17_4) t233 _ ?side1 ?side2 A74.out).mono ?_); (case side1 => repeat (first | exact aq32 | (with_reducible refine Kd.C_alloc ?_ _) | (with_reducible refine Kd.C_drewN ?_ _) | (with_reducible refine Kd.C_drew ?_))); (case side2 => exact HC232_0.out); rintro e w' ⟨rfl, ⟨nd, rfl⟩⟩; (try first | exact ⟨rfl, _, World.drewN_drewN _ _ _⟩ | exact ⟨rfl, _, Eq.trans (World.drewN_drewN _ _ _) (congrArg (World.drewN _) (Nat.add_assoc _ _ _))⟩))))
           go_roundg k5
           case measure => have := HK1.out; have := HK2.out; have := HK3.out; have := HK4.out; have := HK5.out; omega
           case rel => exact ⟨(t233), (wrap64 (x20_5 + 1)), aq4, aq4, H', ⟨aq40⟩, ⟨aq9⟩, ⟨aq10⟩, ⟨aq6⟩, ⟨aq36⟩, ⟨aq5⟩, ⟨aq30⟩, ⟨aq23⟩, ⟨aq0⟩⟩
end Go.Proofs.YtianfjhhhhmjlaaDoor.PLiveFlows
