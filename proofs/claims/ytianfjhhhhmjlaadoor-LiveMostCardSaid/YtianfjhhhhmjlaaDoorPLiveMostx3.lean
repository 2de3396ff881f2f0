-- Written by print2.py over the kit's printer. Not trusted: Lean checks it.
import Derived.Test.YtianfjhhhhmjlaaDoorPLiveMosthqq
import Derived.Test.YtianfjhhhhmjlaaDoorPLiveMostx0
import Derived.Test.YtianfjhhhhmjlaaDoorPLiveMostx2
import Derived.Test.YtianfjhhhhmjlaaDoorPLiveMosthlahead
import Derived.Test.YtianfjhhhhmjlaaDoorPLiveMosthlmost
import Derived.Test.YtianfjhhhhmjlaaDoorPLiveMosthlranges
namespace Go.Proofs.YtianfjhhhhmjlaaDoor.PLiveMost
open Go.RowKit Go.Proofs.YtianfjhhhhmjlaaDoorW.PrintWords Go.Proofs.YtianfjhhhhmjlaaDoorW.PrintLast Go.Proofs.YtianfjhhhhmjlaaDoorW.PrintMore
attribute [local go_sem] max2_int min2_int max_two min_two max_three min_three max_four min_four   -- for this text's walks alone
set_option linter.unusedVariables false
set_option linter.unusedSimpArgs false

/-! ### palinglaw15_LiveMost: function 6 -/
mutual
def palinglaw15_LiveMost.l0 : Nat → List (S39) → List (List Int) → List (S30) → Int → Bool → Int → Option (Bool)
  | 0, _, _, _, _, _, _ => none
  | k + 1, x0, x5, x6, x7, x8, x9 => if x9 < (x0.length : Int) then (palinglaw15_LiveMost.l1 k x0 x5 x6 x7 x8 x9 0 0) else (palinglaw15_LiveMost.l2 k x0 x6 x8 0)
def palinglaw15_LiveMost.l1 : Nat → List (S39) → List (List Int) → List (S30) → Int → Bool → Int → Int → Int → Option (Bool)
  | 0, _, _, _, _, _, _, _, _ => none
  | k + 1, x0, x5, x6, x7, x8, x9, x10, x11 => if x11 < (x6.length : Int) then (if 0 ≤ x11 then (if ((rd_T30 x6 x11).f1) ≤ x9 then (if x9 ≤ ((rd_T30 x6 x11).f2) then (palinglaw15_LiveMost.l1 k x0 x5 x6 x7 x8 x9 (wrap64 (x10 + 1)) (wrap64 (x11 + 1))) else (palinglaw15_LiveMost.l1 k x0 x5 x6 x7 x8 x9 x10 (wrap64 (x11 + 1)))) else (palinglaw15_LiveMost.l1 k x0 x5 x6 x7 x8 x9 x10 (wrap64 (x11 + 1)))) else (none)) else (if 0 ≤ x9 then (if x9 < (x5.length : Int) then (if ((rd_L5 x5 x9).length : Int) > x7 then (some false) else (if ((rd_L5 x5 x9).length : Int) > x10 then (some false) else (if x8 = true then (palinglaw15_LiveMost.l0 k x0 x5 x6 x7 true (wrap64 (x9 + 1))) else (palinglaw15_LiveMost.l0 k x0 x5 x6 x7 (((rd_L5 x5 x9).length : Int) == x7) (wrap64 (x9 + 1)))))) else (none)) else (none))
def palinglaw15_LiveMost.l2 : Nat → List (S39) → List (S30) → Bool → Int → Option (Bool)
  | 0, _, _, _, _ => none
  | k + 1, x0, x6, x8, x12 => if x12 < (x6.length : Int) then (if 0 ≤ x12 then (if ((rd_T30 x6 x12).f1) < 0 then (some false) else (if ((rd_T30 x6 x12).f2) < ((rd_T30 x6 x12).f1) then (some false) else (if ((rd_T30 x6 x12).f2) ≥ (x0.length : Int) then (some false) else (if x12 > 0 then (if 0 ≤ (wrap64 (x12 - 1)) then (if (wrap64 (x12 - 1)) < (x6.length : Int) then (if ((rd_T30 x6 x12).f0) ≤ ((rd_T30 x6 (wrap64 (x12 - 1))).f0) then (some false) else (palinglaw15_LiveMost.l2 k x0 x6 x8 (wrap64 (x12 + 1)))) else (none)) else (none)) else (palinglaw15_LiveMost.l2 k x0 x6 x8 (wrap64 (x12 + 1))))))) else (none)) else (some x8)
end
def palinglaw15_LiveMost.f (k : Nat) (l0 : List (S39)) : Option (Bool) := (palinglaw15_awake.f k).bind fun t131 => (if t131 = true then ((palinglaw15_small.f k l0).bind fun t132 => (if t132 = true then ((live_Ahead.f k l0).bind fun t133 => ((live_Ranges.f k l0).bind fun t136 => ((live_Most.f k l0).bind fun t139 => (palinglaw15_LiveMost.l0 k l0 t133 t136 t139 (t139 == 0) 0)))) else (some true))) else (none))
theorem palinglaw15_LiveMost.mono_l : ∀ k, (∀ y0 y1 y2 y3 y4 y5, LeO (palinglaw15_LiveMost.l0 k y0 y1 y2 y3 y4 y5) (palinglaw15_LiveMost.l0 (k + 1) y0 y1 y2 y3 y4 y5)) ∧ (∀ y0 y1 y2 y3 y4 y5 y6 y7, LeO (palinglaw15_LiveMost.l1 k y0 y1 y2 y3 y4 y5 y6 y7) (palinglaw15_LiveMost.l1 (k + 1) y0 y1 y2 y3 y4 y5 y6 y7)) ∧ (∀ y0 y1 y2 y3, LeO (palinglaw15_LiveMost.l2 k y0 y1 y2 y3) (palinglaw15_LiveMost.l2 (k + 1) y0 y1 y2 y3))
  | 0 => ⟨fun _ _ _ _ _ _ r h => by simp [palinglaw15_LiveMost.l0] at h, fun _ _ _ _ _ _ _ _ r h => by simp [palinglaw15_LiveMost.l1] at h, fun _ _ _ _ r h => by simp [palinglaw15_LiveMost.l2] at h⟩
  | k + 1 => by
    obtain ⟨ih0, ih1, ih2⟩ := palinglaw15_LiveMost.mono_l k
    refine ⟨?_, ?_, ?_⟩ <;> intros <;> (first | unfold palinglaw15_LiveMost.l0 | unfold palinglaw15_LiveMost.l1 | unfold palinglaw15_LiveMost.l2) <;> repeat' (first | (with_reducible first | exact ih0 _ _ _ _ _ _ | exact ih1 _ _ _ _ _ _ _ _ | exact ih2 _ _ _ _ | exact live_Ahead.mono _ _ | exact live_Most.mono _ _ | exact live_Ranges.mono _ _ | exact palinglaw15_awake.mono _ | exact palinglaw15_small.mono _ _ | exact LeO.refl _ | exact LeO.none _ | refine LeO.ite ?_ ?_ | refine LeO.bind ?_ (fun _ => ?_)) | exact ih0 _ _ _ _ _ _ | exact ih1 _ _ _ _ _ _ _ _ | exact ih2 _ _ _ _ | exact live_Ahead.mono _ _ | exact live_Most.mono _ _ | exact live_Ranges.mono _ _ | exact palinglaw15_awake.mono _ | exact palinglaw15_small.mono _ _ | exact LeO.none _ | refine LeO.ite ?_ ?_ | refine LeO.bind ?_ (fun _ => ?_))
theorem palinglaw15_LiveMost.mono : ∀ a0 k, LeO (palinglaw15_LiveMost.f k a0) (palinglaw15_LiveMost.f (k + 1) a0) := by
 intro a0 k
 obtain ⟨ih0, ih1, ih2⟩ := palinglaw15_LiveMost.mono_l k
 unfold palinglaw15_LiveMost.f
 repeat' (first | (with_reducible first | exact ih0 _ _ _ _ _ _ | exact ih1 _ _ _ _ _ _ _ _ | exact ih2 _ _ _ _ | exact live_Ahead.mono _ _ | exact live_Most.mono _ _ | exact live_Ranges.mono _ _ | exact palinglaw15_awake.mono _ | exact palinglaw15_small.mono _ _ | exact LeO.refl _ | exact LeO.none _ | refine LeO.ite ?_ ?_ | refine LeO.bind ?_ (fun _ => ?_)) | exact ih0 _ _ _ _ _ _ | exact ih1 _ _ _ _ _ _ _ _ | exact ih2 _ _ _ _ | exact live_Ahead.mono _ _ | exact live_Most.mono _ _ | exact live_Ranges.mono _ _ | exact palinglaw15_awake.mono _ | exact palinglaw15_small.mono _ _ | exact LeO.none _ | refine LeO.ite ?_ ?_ | refine LeO.bind ?_ (fun _ => ?_))
set_option maxHeartbeats 8000000 in
set_option maxRecDepth 100000 in
theorem palinglaw15_LiveMost.calls (k : Nat) (A0 : Option Addr) (c0 : Nat) (l0 : List (S39)) (r : Bool) (w : World) (hr0 : Kd.C k39 w A0 l0.length l0) (hc0 : l0.length ≤ c0) (h : palinglaw15_LiveMost.f k l0 = some r) (hgl : GlobOK w) :
    Calls Tryd.prog 6 #[.slice A0 l0.length c0] w fun e w' => e = .returned (.bool r) ∧ Below w.heap.size w w' := by
 have HR0 := Aside0.mk hr0
 have HC0 := Aside0.mk hc0
 clear hr0 hc0
 have HB := Aside0.mk (Below.refl w.heap.size w)
 have HGL := Aside0.mk hgl
 clear hgl
 have H : ((palinglaw15_awake.f k).bind fun t131 => (if t131 = true then ((palinglaw15_small.f k l0).bind fun t132 => (if t132 = true then ((live_Ahead.f k l0).bind fun t133 => ((live_Ranges.f k l0).bind fun t136 => ((live_Most.f k l0).bind fun t139 => (palinglaw15_LiveMost.l0 k l0 t133 t136 t139 (t139 == 0) 0)))) else (some true))) else (none))) = some r := h
 clear h
 obtain ⟨t131, A2, H⟩ := bS_ H
 by_cases c3 : t131 = true
 rotate_left
 ·replace c3 := Bool.eq_false_iff.mpr c3
  subst c3
  rw [if_neg nf_] at H
  exact absurd H (by simp)
 subst c3
 rw [if_pos rfl] at H
 obtain ⟨t132, A4, H⟩ := bS_ H
 by_cases c5 : t132 = true
 rotate_left
 ·replace c5 := Bool.eq_false_iff.mpr c5
  subst c5
  rw [if_neg nf_] at H
  obtain rfl := Option.some.inj H
  go_enter Tryd.func6, Tryd.ntmps6
  go_wp2_with (first | (go_at_call 7; (with_reducible refine (palinglaw15_awake.calls k  true _ A2.out (GlobOK.step HGL.out aq0)).mono ?_); rintro e w51 ⟨rfl, hb⟩; replace HB := Aside0.mk (below_step aq0 hb); (try clear hb); (try clear hb2); (try clear hk); (try clear hi)) | (go_at_call 8; (with_reducible refine (palinglaw15_small.calls k _ _ l0 false _ ?side1 ?side2 A4.out).mono ?_); (case side1 => repeat (first | exact (Kd.C_below HR0.out HB.out) | (with_reducible refine Kd.C_alloc ?_ _) | (with_reducible refine Kd.C_drewN ?_ _) | (with_reducible refine Kd.C_drew ?_))); (case side2 => exact HC0.out); rintro e w' ⟨rfl, ⟨nd, rfl⟩⟩; (try first | exact ⟨rfl, _, World.drewN_drewN _ _ _⟩ | exact ⟨rfl, _, Eq.trans (World.drewN_drewN _ _ _) (congrArg (World.drewN _) (Nat.add_assoc _ _ _))⟩)))
  repeat (go_quiet (first | (go_at_call 7; (with_reducible refine (palinglaw15_awake.calls k  true _ A2.out (GlobOK.step HGL.out aq0)).mono ?_); rintro e w51 ⟨rfl, hb⟩; replace HB := Aside0.mk (below_step aq0 hb); (try clear hb); (try clear hb2); (try clear hk); (try clear hi)) | (go_at_call 8; (with_reducible refine (palinglaw15_small.calls k _ _ l0 false _ ?side1 ?side2 A4.out).mono ?_); (case side1 => repeat (first | exact (Kd.C_below HR0.out HB.out) | (with_reducible refine Kd.C_alloc ?_ _) | (with_reducible refine Kd.C_drewN ?_ _) | (with_reducible refine Kd.C_drew ?_))); (case side2 => exact HC0.out); rintro e w' ⟨rfl, ⟨nd, rfl⟩⟩; (try first | exact ⟨rfl, _, World.drewN_drewN _ _ _⟩ | exact ⟨rfl, _, Eq.trans (World.drewN_drewN _ _ _) (congrArg (World.drewN _) (Nat.add_assoc _ _ _))⟩))); try go_wp2_with (first | (go_at_call 7; (with_reducible refine (palinglaw15_awake.calls k  true _ A2.out (GlobOK.step HGL.out aq0)).mono ?_); rintro e w51 ⟨rfl, hb⟩; replace HB := Aside0.mk (below_step aq0 hb); (try clear hb); (try clear hb2); (try clear hk); (try clear hi)) | (go_at_call 8; (with_reducible refine (palinglaw15_small.calls k _ _ l0 false _ ?side1 ?side2 A4.out).mono ?_); (case side1 => repeat (first | exact (Kd.C_below HR0.out HB.out) | (with_reducible refine Kd.C_alloc ?_ _) | (with_reducible refine Kd.C_drewN ?_ _) | (with_reducible refine Kd.C_drew ?_))); (case side2 => exact HC0.out); rintro e w' ⟨rfl, ⟨nd, rfl⟩⟩; (try first | exact ⟨rfl, _, World.drewN_drewN _ _ _⟩ | exact ⟨rfl, _, Eq.trans (World.drewN_drewN _ _ _) (congrArg (World.drewN _) (Nat.add_assoc _ _ _))⟩))))
  go_ret
  exact ⟨aq6, aq0⟩
 subst c5
 rw [if_pos rfl] at H
 obtain ⟨t133, A6, H⟩ := bS_ H
 obtain ⟨t136, A7, H⟩ := bS_ H
 obtain ⟨t139, A8, H⟩ := bS_ H
 have H' := Aside0.mk H
 clear H
 go_enter Tryd.func6, Tryd.ntmps6
 go_wp2_with (first | (go_at_call 7; (with_reducible refine (palinglaw15_awake.calls k  true _ A2.out (GlobOK.step HGL.out aq0)).mono ?_); rintro e w9 ⟨rfl, hb⟩; replace HB := Aside0.mk (below_step aq0 hb); (try clear hb); (try clear hb2); (try clear hk); (try clear hi)) | (go_at_call 8; (with_reducible refine (palinglaw15_small.calls k _ _ l0 true _ ?side1 ?side2 A4.out).mono ?_); (case side1 => repeat (first | exact (Kd.C_below HR0.out HB.out) | (with_reducible refine Kd.C_alloc ?_ _) | (with_reducible refine Kd.C_drewN ?_ _) | (with_reducible refine Kd.C_drew ?_))); (case side2 => exact HC0.out); rintro e w' ⟨rfl, ⟨nd, rfl⟩⟩; (try first | exact ⟨rfl, _, World.drewN_drewN _ _ _⟩ | exact ⟨rfl, _, Eq.trans (World.drewN_drewN _ _ _) (congrArg (World.drewN _) (Nat.add_assoc _ _ _))⟩)) | (go_at_call 12; (with_reducible refine (live_Ahead.calls k _ _ l0 t133 _ ?side1 ?side2 A6.out (GlobOK.step HGL.out aq0)).mono ?_); (case side1 => repeat (first | exact (Kd.C_below HR0.out aq0) | (with_reducible refine Kd.C_alloc ?_ _) | (with_reducible refine Kd.C_drewN ?_ _) | (with_reducible refine Kd.C_drew ?_))); (case side2 => exact HC0.out); rintro e w10 ⟨v134, rfl, ho0, hb⟩; have HO135 := Aside0.mk (Kd.S_lower ho0 (below_size aq0)); replace HB := Aside0.mk (below_step aq0 hb); (try clear hb); (try clear hb2); (try clear hk); (try clear hi); (try clear ho0)) | (go_at_call 9; (with_reducible refine (live_Ranges.calls k _ _ l0 t136 _ ?side1 ?side2 A7.out (GlobOK.step HGL.out aq0)).mono ?_); (case side1 => repeat (first | exact (Kd.C_below HR0.out HB.out) | (with_reducible refine Kd.C_alloc ?_ _) | (with_reducible refine Kd.C_drewN ?_ _) | (with_reducible refine Kd.C_drew ?_))); (case side2 => exact HC0.out); rintro e w11 ⟨v137, rfl, ho0, hb⟩; replace HO135 := Aside0.mk (Kd.S_below aq7 hb); have HO138 := Aside0.mk (Kd.R_lower ho0 (below_size aq0)); replace HB := Aside0.mk (below_step aq0 hb); (try clear hb); (try clear hb2); (try clear hk); (try clear hi); (try clear ho0)) | (go_at_call 16; (with_reducible refine (live_Most.calls k _ _ l0 t139 _ ?side1 ?side2 A8.out (GlobOK.step HGL.out aq0)).mono ?_); (case side1 => repeat (first | exact (Kd.C_below HR0.out HB.out) | (with_reducible refine Kd.C_alloc ?_ _) | (with_reducible refine Kd.C_drewN ?_ _) | (with_reducible refine Kd.C_drew ?_))); (case side2 => exact HC0.out); rintro e w12 ⟨rfl, hb⟩; replace HO135 := Aside0.mk (Kd.S_below aq7 hb); replace HO138 := Aside0.mk (Kd.R_below aq19 hb); replace HB := Aside0.mk (below_step aq0 hb); (try clear hb); (try clear hb2); (try clear hk); (try clear hi)))
 repeat (go_quiet (first | (go_at_call 7; (with_reducible refine (palinglaw15_awake.calls k  true _ A2.out (GlobOK.step HGL.out aq0)).mono ?_); rintro e w9 ⟨rfl, hb⟩; replace HB := Aside0.mk (below_step aq0 hb); (try clear hb); (try clear hb2); (try clear hk); (try clear hi)) | (go_at_call 8; (with_reducible refine (palinglaw15_small.calls k _ _ l0 true _ ?side1 ?side2 A4.out).mono ?_); (case side1 => repeat (first | exact (Kd.C_below HR0.out HB.out) | (with_reducible refine Kd.C_alloc ?_ _) | (with_reducible refine Kd.C_drewN ?_ _) | (with_reducible refine Kd.C_drew ?_))); (case side2 => exact HC0.out); rintro e w' ⟨rfl, ⟨nd, rfl⟩⟩; (try first | exact ⟨rfl, _, World.drewN_drewN _ _ _⟩ | exact ⟨rfl, _, Eq.trans (World.drewN_drewN _ _ _) (congrArg (World.drewN _) (Nat.add_assoc _ _ _))⟩)) | (go_at_call 12; (with_reducible refine (live_Ahead.calls k _ _ l0 t133 _ ?side1 ?side2 A6.out (GlobOK.step HGL.out aq0)).mono ?_); (case side1 => repeat (first | exact (Kd.C_below HR0.out aq0) | (with_reducible refine Kd.C_alloc ?_ _) | (with_reducible refine Kd.C_drewN ?_ _) | (with_reducible refine Kd.C_drew ?_))); (case side2 => exact HC0.out); rintro e w10 ⟨v134, rfl, ho0, hb⟩; have HO135 := Aside0.mk (Kd.S_lower ho0 (below_size aq0)); replace HB := Aside0.mk (below_step aq0 hb); (try clear hb); (try clear hb2); (try clear hk); (try clear hi); (try clear ho0)) | (go_at_call 9; (with_reducible refine (live_Ranges.calls k _ _ l0 t136 _ ?side1 ?side2 A7.out (GlobOK.step HGL.out aq0)).mono ?_); (case side1 => repeat (first | exact (Kd.C_below HR0.out HB.out) | (with_reducible refine Kd.C_alloc ?_ _) | (with_reducible refine Kd.C_drewN ?_ _) | (with_reducible refine Kd.C_drew ?_))); (case side2 => exact HC0.out); rintro e w11 ⟨v137, rfl, ho0, hb⟩; replace HO135 := Aside0.mk (Kd.S_below aq7 hb); have HO138 := Aside0.mk (Kd.R_lower ho0 (below_size aq0)); replace HB := Aside0.mk (below_step aq0 hb); (try clear hb); (try clear hb2); (try clear hk); (try clear hi); (try clear ho0)) | (go_at_call 16; (with_reducible refine (live_Most.calls k _ _ l0 t139 _ ?side1 ?side2 A8.out (GlobOK.step HGL.out aq0)).mono ?_); (case side1 => repeat (first | exact (Kd.C_below HR0.out HB.out) | (with_reducible refine Kd.C_alloc ?_ _) | (with_reducible refine Kd.C_drewN ?_ _) | (with_reducible refine Kd.C_drew ?_))); (case side2 => exact HC0.out); rintro e w12 ⟨rfl, hb⟩; replace HO135 := Aside0.mk (Kd.S_below aq7 hb); replace HO138 := Aside0.mk (Kd.R_below aq19 hb); replace HB := Aside0.mk (below_step aq0 hb); (try clear hb); (try clear hb2); (try clear hk); (try clear hi))); try go_wp2_with (first | (go_at_call 7; (with_reducible refine (palinglaw15_awake.calls k  true _ A2.out (GlobOK.step HGL.out aq0)).mono ?_); rintro e w9 ⟨rfl, hb⟩; replace HB := Aside0.mk (below_step aq0 hb); (try clear hb); (try clear hb2); (try clear hk); (try clear hi)) | (go_at_call 8; (with_reducible refine (palinglaw15_small.calls k _ _ l0 true _ ?side1 ?side2 A4.out).mono ?_); (case side1 => repeat (first | exact (Kd.C_below HR0.out HB.out) | (with_reducible refine Kd.C_alloc ?_ _) | (with_reducible refine Kd.C_drewN ?_ _) | (with_reducible refine Kd.C_drew ?_))); (case side2 => exact HC0.out); rintro e w' ⟨rfl, ⟨nd, rfl⟩⟩; (try first | exact ⟨rfl, _, World.drewN_drewN _ _ _⟩ | exact ⟨rfl, _, Eq.trans (World.drewN_drewN _ _ _) (congrArg (World.drewN _) (Nat.add_assoc _ _ _))⟩)) | (go_at_call 12; (with_reducible refine (live_Ahead.calls k _ _ l0 t133 _ ?side1 ?side2 A6.out (GlobOK.step HGL.out aq0)).mono ?_); (case side1 => repeat (first | exact (Kd.C_below HR0.out aq0) | (with_reducible refine Kd.C_alloc ?_ _) | (with_reducible refine Kd.C_drewN ?_ _) | (with_reducible refine Kd.C_drew ?_))); (case side2 => exact HC0.out); rintro e w10 ⟨v134, rfl, ho0, hb⟩; have HO135 := Aside0.mk (Kd.S_lower ho0 (below_size aq0)); replace HB := Aside0.mk (below_step aq0 hb); (try clear hb); (try clear hb2); (try clear hk); (try clear hi); (try clear ho0)) | (go_at_call 9; (with_reducible refine (live_Ranges.calls k _ _ l0 t136 _ ?side1 ?side2 A7.out (GlobOK.step HGL.out aq0)).mono ?_); (case side1 => repeat (first | exact (Kd.C_below HR0.out HB.out) | (with_reducible refine Kd.C_alloc ?_ _) | (with_reducible refine Kd.C_drewN ?_ _) | (with_reducible refine Kd.C_drew ?_))); (case side2 => exact HC0.out); rintro e w11 ⟨v137, rfl, ho0, hb⟩; replace HO135 := Aside0.mk (Kd.S_below aq7 hb); have HO138 := Aside0.mk (Kd.R_lower ho0 (below_size aq0)); replace HB := Aside0.mk (below_step aq0 hb); (try clear hb); (try clear hb2); (try clear hk); (try clear hi); (try clear ho0)) | (go_at_call 16; (with_reducible refine (live_Most.calls k _ _ l0 t139 _ ?side1 ?side2 A8.out (GlobOK.step HGL.out aq0)).mono ?_); (case side1 => repeat (first | exact (Kd.C_below HR0.out HB.out) | (with_reducible refine Kd.C_alloc ?_ _) | (with_reducible refine Kd.C_drewN ?_ _) | (with_reducible refine Kd.C_drew ?_))); (case side2 => exact HC0.out); rintro e w12 ⟨rfl, hb⟩; replace HO135 := Aside0.mk (Kd.S_below aq7 hb); replace HO138 := Aside0.mk (Kd.R_below aq19 hb); replace HB := Aside0.mk (below_step aq0 hb); (try clear hb); (try clear hb2); (try clear hk); (try clear hi))))
 go_loopg [8, 9] k (fun kq v8 v9 w' => ∃ (x8_1 : Bool) (x9_1 : Int), v8 = .bool x8_1 ∧ v9 = .int .i64 x9_1 ∧ Aside0 (palinglaw15_LiveMost.l0 kq l0 t133 t136 t139 x8_1 x9_1 = some r) ∧ Aside0 (kq ≤ k) ∧ Aside0 (Kd.S (Kd.slice 3 (Kd.int .i64)) 36 w' w.heap.size (fun _ => True) v134 t133) ∧ Aside0 (Kd.R k30 30 w' w.heap.size (fun _ => True) v137 t136) ∧ Aside0 (Below w.heap.size w w'))
 case atStart => exact ⟨((t139 == 0)), (0), aq2, aq2, H', ⟨Nat.le_refl _⟩, ⟨aq7⟩, ⟨aq19⟩, ⟨aq0⟩⟩
 case round =>
  clear H'
  obtain ⟨x8_1, x9_1, rfl, rfl, HA, HK1, HO_5, HO_6, HB⟩ := hrel
  cases gk with
  | zero => exact absurd HA.out (by simp [palinglaw15_LiveMost.l0])
  | succ k1 =>
   have H := HA.out
   clear HA
   simp only [palinglaw15_LiveMost.l0] at H
   by_cases c13 : x9_1 < (l0.length : Int)
   rotate_left
   ·rw [if_neg c13] at H
    have c13b0 : decide (x9_1 < (l0.length : Int)) = false := decide_eq_false c13
    clear c13
    have H' := Aside0.mk H
    clear H
    go_wp2
    repeat (go_quiet (fail); try go_wp2)
    go_loopg [12] k1 (fun kq v12 w' => ∃ (x12_2 : Int), v12 = .int .i64 x12_2 ∧ Aside0 (palinglaw15_LiveMost.l2 kq l0 t136 x8_1 x12_2 = some r) ∧ Aside0 (kq ≤ k1) ∧ Aside0 (Kd.R k30 30 w' w.heap.size (fun _ => True) v137 t136) ∧ Aside0 (Below w.heap.size w w'))
    case atStart => exact ⟨(0), aq2, H', ⟨Nat.le_refl _⟩, ⟨aq3⟩, ⟨aq0⟩⟩
    case round =>
     clear H'
     obtain ⟨x12_2, rfl, HA, HK2, HO_6, HB⟩ := hrel
     cases gk with
     | zero => exact absurd HA.out (by simp [palinglaw15_LiveMost.l2])
     | succ k2 =>
      have H := HA.out
      clear HA
      simp only [palinglaw15_LiveMost.l2] at H
      by_cases c34 : x12_2 < (t136.length : Int)
      rotate_left
      ·rw [if_neg c34] at H
       have c34b0 : decide (x12_2 < (t136.length : Int)) = false := decide_eq_false c34
       clear c34
       obtain rfl := Option.some.inj H
       obtain ⟨Ao50, co50, eo50⟩ := Kd.R_slice HO_6.out
       subst eo50
       go_wp2
       repeat (go_quiet (fail); try go_wp2)
       go_ret
       exact ⟨aq6, aq0⟩
      rw [if_pos c34] at H
      have c34b0 : decide (x12_2 < (t136.length : Int)) = true := decide_eq_true c34
      clear c34
      by_cases c35 : 0 ≤ x12_2
      rotate_left
      ·rw [if_neg c35] at H
       exact absurd H (by simp)
      rw [if_pos c35] at H
      have c35b0 : decide (0 ≤ x12_2) = true := decide_eq_true c35
      clear c35
      by_cases c36 : ((rd_T30 t136 x12_2).f1) < 0
      ·rw [if_pos c36] at H
       have c36b0 : decide (((rd_T30 t136 x12_2).f1) < 0) = true := decide_eq_true c36
       clear c36
       obtain rfl := Option.some.inj H
       obtain ⟨Ao37, co37, eo37⟩ := Kd.R_slice HO_6.out
       subst eo37
       have p145 : 0 ≤ (x12_2 : Int) := of_decide_eq_true aq1
       have q145 : x12_2 < (t136.length : Int) := of_decide_eq_true aq1
       obtain ⟨ad145, e145, hx145_0, hx145_1, hx145_2⟩ := at_T30 (Kd.R_reads' HO_6.out).2.2 x12_2 p145 q145
       cases e145
       replace p145 := eq_true p145
       replace q145 := eq_true q145
       go_wp2
       repeat (go_quiet (fail); try go_wp2)
       go_ret
       exact ⟨aq6, aq0⟩
      rw [if_neg c36] at H
      have c36b0 : decide (((rd_T30 t136 x12_2).f1) < 0) = false := decide_eq_false c36
      clear c36
      by_cases c38 : ((rd_T30 t136 x12_2).f2) < ((rd_T30 t136 x12_2).f1)
      ·rw [if_pos c38] at H
       have c38b0 : decide (((rd_T30 t136 x12_2).f2) < ((rd_T30 t136 x12_2).f1)) = true := decide_eq_true c38
       clear c38
       obtain rfl := Option.some.inj H
       obtain ⟨Ao39, co39, eo39⟩ := Kd.R_slice HO_6.out
       subst eo39
       have p145 : 0 ≤ (x12_2 : Int) := of_decide_eq_true aq1
       have q145 : x12_2 < (t136.length : Int) := of_decide_eq_true aq1
       obtain ⟨ad145, e145, hx145_0, hx145_1, hx145_2⟩ := at_T30 (Kd.R_reads' HO_6.out).2.2 x12_2 p145 q145
       cases e145
       replace p145 := eq_true p145
       replace q145 := eq_true q145
       have p146 : 0 ≤ (x12_2 : Int) := of_decide_eq_true aq1
       have q146 : x12_2 < (t136.length : Int) := of_decide_eq_true aq1
       obtain ⟨ad146, e146, hx146_0, hx146_1, hx146_2⟩ := at_T30 (Kd.R_reads' HO_6.out).2.2 x12_2 p146 q146
       obtain rfl : ad145 = ad146 := (by injection e146)
       replace p146 := eq_true p146
       replace q146 := eq_true q146
       have p147 : 0 ≤ (x12_2 : Int) := of_decide_eq_true aq1
       have q147 : x12_2 < (t136.length : Int) := of_decide_eq_true aq1
       obtain ⟨ad147, e147, hx147_0, hx147_1, hx147_2⟩ := at_T30 (Kd.R_reads' HO_6.out).2.2 x12_2 p147 q147
       obtain rfl : ad145 = ad147 := (by injection e147)
       replace p147 := eq_true p147
       replace q147 := eq_true q147
       go_wp2
       repeat (go_quiet (fail); try go_wp2)
       go_ret
       exact ⟨aq6, aq0⟩
      rw [if_neg c38] at H
      have c38b0 : decide (((rd_T30 t136 x12_2).f2) < ((rd_T30 t136 x12_2).f1)) = false := decide_eq_false c38
      clear c38
      by_cases c40 : ((rd_T30 t136 x12_2).f2) ≥ (l0.length : Int)
      ·rw [if_pos c40] at H
       have c40b0 : decide ((l0.length : Int) ≤ ((rd_T30 t136 x12_2).f2)) = true := decide_eq_true c40
       clear c40
       obtain rfl := Option.some.inj H
       obtain ⟨Ao41, co41, eo41⟩ := Kd.R_slice HO_6.out
       subst eo41
       have p145 : 0 ≤ (x12_2 : Int) := of_decide_eq_true aq1
       have q145 : x12_2 < (t136.length : Int) := of_decide_eq_true aq1
       obtain ⟨ad145, e145, hx145_0, hx145_1, hx145_2⟩ := at_T30 (Kd.R_reads' HO_6.out).2.2 x12_2 p145 q145
       cases e145
       replace p145 := eq_true p145
       replace q145 := eq_true q145
       have p146 : 0 ≤ (x12_2 : Int) := of_decide_eq_true aq1
       have q146 : x12_2 < (t136.length : Int) := of_decide_eq_true aq1
       obtain ⟨ad146, e146, hx146_0, hx146_1, hx146_2⟩ := at_T30 (Kd.R_reads' HO_6.out).2.2 x12_2 p146 q146
       obtain rfl : ad145 = ad146 := (by injection e146)
       replace p146 := eq_true p146
       replace q146 := eq_true q146
       have p147 : 0 ≤ (x12_2 : Int) := of_decide_eq_true aq1
       have q147 : x12_2 < (t136.length : Int) := of_decide_eq_true aq1
       obtain ⟨ad147, e147, hx147_0, hx147_1, hx147_2⟩ := at_T30 (Kd.R_reads' HO_6.out).2.2 x12_2 p147 q147
       obtain rfl : ad145 = ad147 := (by injection e147)
       replace p147 := eq_true p147
       replace q147 := eq_true q147
       have p148 : 0 ≤ (x12_2 : Int) := of_decide_eq_true aq1
       have q148 : x12_2 < (t136.length : Int) := of_decide_eq_true aq1
       obtain ⟨ad148, e148, hx148_0, hx148_1, hx148_2⟩ := at_T30 (Kd.R_reads' HO_6.out).2.2 x12_2 p148 q148
       obtain rfl : ad145 = ad148 := (by injection e148)
       replace p148 := eq_true p148
       replace q148 := eq_true q148
       go_wp2
       repeat (go_quiet (fail); try go_wp2)
       go_ret
       exact ⟨aq6, aq0⟩
      rw [if_neg c40] at H
      have c40b0 : decide ((l0.length : Int) ≤ ((rd_T30 t136 x12_2).f2)) = false := decide_eq_false c40
      clear c40
      by_cases c42 : x12_2 > 0
      rotate_left
      ·rw [if_neg c42] at H
       have c42b0 : decide (0 < x12_2) = false := decide_eq_false c42
       clear c42
       have H' := Aside0.mk H
       clear H
       obtain ⟨Ao49, co49, eo49⟩ := Kd.R_slice HO_6.out
       subst eo49
       have p145 : 0 ≤ (x12_2 : Int) := of_decide_eq_true aq1
       have q145 : x12_2 < (t136.length : Int) := of_decide_eq_true aq1
       obtain ⟨ad145, e145, hx145_0, hx145_1, hx145_2⟩ := at_T30 (Kd.R_reads' HO_6.out).2.2 x12_2 p145 q145
       cases e145
       replace p145 := eq_true p145
       replace q145 := eq_true q145
       have p146 : 0 ≤ (x12_2 : Int) := of_decide_eq_true aq1
       have q146 : x12_2 < (t136.length : Int) := of_decide_eq_true aq1
       obtain ⟨ad146, e146, hx146_0, hx146_1, hx146_2⟩ := at_T30 (Kd.R_reads' HO_6.out).2.2 x12_2 p146 q146
       obtain rfl : ad145 = ad146 := (by injection e146)
       replace p146 := eq_true p146
       replace q146 := eq_true q146
       have p147 : 0 ≤ (x12_2 : Int) := of_decide_eq_true aq1
       have q147 : x12_2 < (t136.length : Int) := of_decide_eq_true aq1
       obtain ⟨ad147, e147, hx147_0, hx147_1, hx147_2⟩ := at_T30 (Kd.R_reads' HO_6.out).2.2 x12_2 p147 q147
       obtain rfl : ad145 = ad147 := (by injection e147)
       replace p147 := eq_true p147
       replace q147 := eq_true q147
       have p148 : 0 ≤ (x12_2 : Int) := of_decide_eq_true aq1
       have q148 : x12_2 < (t136.length : Int) := of_decide_eq_true aq1
       obtain ⟨ad148, e148, hx148_0, hx148_1, hx148_2⟩ := at_T30 (Kd.R_reads' HO_6.out).2.2 x12_2 p148 q148
       obtain rfl : ad145 = ad148 := (by injection e148)
       replace p148 := eq_true p148
       replace q148 := eq_true q148
       go_wp2
       repeat (go_quiet (fail); try go_wp2)
       go_roundg k2
       case measure => have := HK1.out; have := HK2.out; omega
       case rel => exact ⟨(wrap64 (x12_2 + 1)), aq2, H', ⟨aq24⟩, ⟨aq3⟩, ⟨aq0⟩⟩
      rw [if_pos c42] at H
      have c42b0 : decide (0 < x12_2) = true := decide_eq_true c42
      clear c42
      obtain ⟨ji43, hji43⟩ : ∃ j_ : Int, (wrap64 (x12_2 - 1)) = j_ := ⟨_, rfl⟩
      replace H : (if 0 ≤ (ji43) then (if (ji43) < (t136.length : Int) then (if ((rd_T30 t136 x12_2).f0) ≤ ((rd_T30 t136 (ji43)).f0) then (some false) else (palinglaw15_LiveMost.l2 k2 l0 t136 x8_1 (wrap64 (x12_2 + 1)))) else (none)) else (none)) = some r := by first | (rw [hji43] at H; exact H) | (simp only [hji43] at H ⊢; exact H)
      have hji43w : (IntKind.i64.wrap (x12_2 - 1)) = ji43 := (i64_w _).trans hji43
      by_cases c44 : 0 ≤ (ji43)
      rotate_left
      ·rw [if_neg c44] at H
       exact absurd H (by simp)
      rw [if_pos c44] at H
      have c44b0 : decide (0 ≤ (ji43)) = true := decide_eq_true c44
      clear c44
      by_cases c45 : (ji43) < (t136.length : Int)
      rotate_left
      ·rw [if_neg c45] at H
       exact absurd H (by simp)
      rw [if_pos c45] at H
      have c45b0 : decide ((ji43) < (t136.length : Int)) = true := decide_eq_true c45
      clear c45
      by_cases c46 : ((rd_T30 t136 x12_2).f0) ≤ ((rd_T30 t136 (ji43)).f0)
      ·rw [if_pos c46] at H
       have c46b0 : decide (((rd_T30 t136 x12_2).f0) ≤ ((rd_T30 t136 (ji43)).f0)) = true := decide_eq_true c46
       clear c46
       obtain rfl := Option.some.inj H
       obtain ⟨Ao47, co47, eo47⟩ := Kd.R_slice HO_6.out
       subst eo47
       have p145 : 0 ≤ (x12_2 : Int) := of_decide_eq_true aq1
       have q145 : x12_2 < (t136.length : Int) := of_decide_eq_true aq1
       obtain ⟨ad145, e145, hx145_0, hx145_1, hx145_2⟩ := at_T30 (Kd.R_reads' HO_6.out).2.2 x12_2 p145 q145
       cases e145
       replace p145 := eq_true p145
       replace q145 := eq_true q145
       have p146 : 0 ≤ (x12_2 : Int) := of_decide_eq_true aq1
       have q146 : x12_2 < (t136.length : Int) := of_decide_eq_true aq1
       obtain ⟨ad146, e146, hx146_0, hx146_1, hx146_2⟩ := at_T30 (Kd.R_reads' HO_6.out).2.2 x12_2 p146 q146
       obtain rfl : ad145 = ad146 := (by injection e146)
       replace p146 := eq_true p146
       replace q146 := eq_true q146
       have p147 : 0 ≤ (x12_2 : Int) := of_decide_eq_true aq1
       have q147 : x12_2 < (t136.length : Int) := of_decide_eq_true aq1
       obtain ⟨ad147, e147, hx147_0, hx147_1, hx147_2⟩ := at_T30 (Kd.R_reads' HO_6.out).2.2 x12_2 p147 q147
       obtain rfl : ad145 = ad147 := (by injection e147)
       replace p147 := eq_true p147
       replace q147 := eq_true q147
       have p148 : 0 ≤ (x12_2 : Int) := of_decide_eq_true aq1
       have q148 : x12_2 < (t136.length : Int) := of_decide_eq_true aq1
       obtain ⟨ad148, e148, hx148_0, hx148_1, hx148_2⟩ := at_T30 (Kd.R_reads' HO_6.out).2.2 x12_2 p148 q148
       obtain rfl : ad145 = ad148 := (by injection e148)
       replace p148 := eq_true p148
       replace q148 := eq_true q148
       have p149 : 0 ≤ (x12_2 : Int) := of_decide_eq_true aq1
       have q149 : x12_2 < (t136.length : Int) := of_decide_eq_true aq1
       obtain ⟨ad149, e149, hx149_0, hx149_1, hx149_2⟩ := at_T30 (Kd.R_reads' HO_6.out).2.2 x12_2 p149 q149
       obtain rfl : ad145 = ad149 := (by injection e149)
       replace p149 := eq_true p149
       replace q149 := eq_true q149
       have p150 : 0 ≤ ((ji43) : Int) := of_decide_eq_true aq1
       have q150 : (ji43) < (t136.length : Int) := of_decide_eq_true aq1
       obtain ⟨ad150, e150, hx150_0, hx150_1, hx150_2⟩ := at_T30 (Kd.R_reads' HO_6.out).2.2 (ji43) p150 q150
       obtain rfl : ad145 = ad150 := (by injection e150)
       replace p150 := eq_true p150
       replace q150 := eq_true q150
       go_wp2
       repeat (go_quiet (fail); try go_wp2)
       go_ret
       exact ⟨by first | rfl | (simp [errW_none, errW_some] <;> rfl) | (simp only [← hji43]; first | rfl | (simp [errW_none, errW_some] <;> rfl)) | (simp [*, errW_none, errW_some] <;> rfl), aq0⟩
      rw [if_neg c46] at H
      have c46b0 : decide (((rd_T30 t136 x12_2).f0) ≤ ((rd_T30 t136 (ji43)).f0)) = false := decide_eq_false c46
      clear c46
      have H' := Aside0.mk H
      clear H
      obtain ⟨Ao48, co48, eo48⟩ := Kd.R_slice HO_6.out
      subst eo48
      have p145 : 0 ≤ (x12_2 : Int) := of_decide_eq_true aq1
      have q145 : x12_2 < (t136.length : Int) := of_decide_eq_true aq1
      obtain ⟨ad145, e145, hx145_0, hx145_1, hx145_2⟩ := at_T30 (Kd.R_reads' HO_6.out).2.2 x12_2 p145 q145
      cases e145
      replace p145 := eq_true p145
      replace q145 := eq_true q145
      have p146 : 0 ≤ (x12_2 : Int) := of_decide_eq_true aq1
      have q146 : x12_2 < (t136.length : Int) := of_decide_eq_true aq1
      obtain ⟨ad146, e146, hx146_0, hx146_1, hx146_2⟩ := at_T30 (Kd.R_reads' HO_6.out).2.2 x12_2 p146 q146
      obtain rfl : ad145 = ad146 := (by injection e146)
      replace p146 := eq_true p146
      replace q146 := eq_true q146
      have p147 : 0 ≤ (x12_2 : Int) := of_decide_eq_true aq1
      have q147 : x12_2 < (t136.length : Int) := of_decide_eq_true aq1
      obtain ⟨ad147, e147, hx147_0, hx147_1, hx147_2⟩ := at_T30 (Kd.R_reads' HO_6.out).2.2 x12_2 p147 q147
      obtain rfl : ad145 = ad147 := (by injection e147)
      replace p147 := eq_true p147
      replace q147 := eq_true q147
      have p148 : 0 ≤ (x12_2 : Int) := of_decide_eq_true aq1
      have q148 : x12_2 < (t136.length : Int) := of_decide_eq_true aq1
      obtain ⟨ad148, e148, hx148_0, hx148_1, hx148_2⟩ := at_T30 (Kd.R_reads' HO_6.out).2.2 x12_2 p148 q148
      obtain rfl : ad145 = ad148 := (by injection e148)
      replace p148 := eq_true p148
      replace q148 := eq_true q148
      have p149 : 0 ≤ (x12_2 : Int) := of_decide_eq_true aq1
      have q149 : x12_2 < (t136.length : Int) := of_decide_eq_true aq1
      obtain ⟨ad149, e149, hx149_0, hx149_1, hx149_2⟩ := at_T30 (Kd.R_reads' HO_6.out).2.2 x12_2 p149 q149
      obtain rfl : ad145 = ad149 := (by injection e149)
      replace p149 := eq_true p149
      replace q149 := eq_true q149
      have p150 : 0 ≤ ((ji43) : Int) := of_decide_eq_true aq1
      have q150 : (ji43) < (t136.length : Int) := of_decide_eq_true aq1
      obtain ⟨ad150, e150, hx150_0, hx150_1, hx150_2⟩ := at_T30 (Kd.R_reads' HO_6.out).2.2 (ji43) p150 q150
      obtain rfl : ad145 = ad150 := (by injection e150)
      replace p150 := eq_true p150
      replace q150 := eq_true q150
      go_wp2
      repeat (go_quiet (fail); try go_wp2)
      go_roundg k2
      case measure => have := HK1.out; have := HK2.out; omega
      case rel => exact ⟨(wrap64 (x12_2 + 1)), aq2, H', ⟨aq24⟩, ⟨aq3⟩, ⟨aq0⟩⟩
   rw [if_pos c13] at H
   have c13b0 : decide (x9_1 < (l0.length : Int)) = true := decide_eq_true c13
   clear c13
   have H' := Aside0.mk H
   clear H
   go_wp2
   repeat (go_quiet (fail); try go_wp2)
   go_loopg [10, 11] k1 (fun kq v10 v11 w' => ∃ (x10_2 : Int) (x11_2 : Int), v10 = .int .i64 x10_2 ∧ v11 = .int .i64 x11_2 ∧ Aside0 (palinglaw15_LiveMost.l1 kq l0 t133 t136 t139 x8_1 x9_1 x10_2 x11_2 = some r) ∧ Aside0 (kq ≤ k1) ∧ Aside0 (Kd.S (Kd.slice 3 (Kd.int .i64)) 36 w' w.heap.size (fun _ => True) v134 t133) ∧ Aside0 (Kd.R k30 30 w' w.heap.size (fun _ => True) v137 t136) ∧ Aside0 (Below w.heap.size w w'))
   case atStart => exact ⟨(0), (0), aq2, aq2, H', ⟨Nat.le_refl _⟩, ⟨aq11⟩, ⟨aq3⟩, ⟨aq0⟩⟩
   case round =>
    clear H'
    obtain ⟨x10_2, x11_2, rfl, rfl, HA, HK2, HO_5, HO_6, HB⟩ := hrel
    cases gk with
    | zero => exact absurd HA.out (by simp [palinglaw15_LiveMost.l1])
    | succ k2 =>
     have H := HA.out
     clear HA
     simp only [palinglaw15_LiveMost.l1] at H
     by_cases c14 : x11_2 < (t136.length : Int)
     ·rw [if_pos c14] at H
      have c14b0 : decide (x11_2 < (t136.length : Int)) = true := decide_eq_true c14
      clear c14
      by_cases c15 : 0 ≤ x11_2
      rotate_left
      ·rw [if_neg c15] at H
       exact absurd H (by simp)
      rw [if_pos c15] at H
      have c15b0 : decide (0 ≤ x11_2) = true := decide_eq_true c15
      clear c15
      by_cases c16 : ((rd_T30 t136 x11_2).f1) ≤ x9_1
      rotate_left
      ·rw [if_neg c16] at H
       have c16b0 : decide (((rd_T30 t136 x11_2).f1) ≤ x9_1) = false := decide_eq_false c16
       clear c16
       have H' := Aside0.mk H
       clear H
       obtain ⟨Ao20, co20, eo20⟩ := Kd.R_slice HO_6.out
       subst eo20
       have p140 : 0 ≤ (x11_2 : Int) := of_decide_eq_true aq1
       have q140 : x11_2 < (t136.length : Int) := of_decide_eq_true aq1
       obtain ⟨ad140, e140, hx140_0, hx140_1, hx140_2⟩ := at_T30 (Kd.R_reads' HO_6.out).2.2 x11_2 p140 q140
       cases e140
       replace p140 := eq_true p140
       replace q140 := eq_true q140
       go_wp2
       repeat (go_quiet (fail); try go_wp2)
       go_roundg k2
       case measure => have := HK1.out; have := HK2.out; omega
       case rel => exact ⟨(x10_2), (wrap64 (x11_2 + 1)), aq2, aq2, H', ⟨aq24⟩, ⟨aq11⟩, ⟨aq3⟩, ⟨aq0⟩⟩
      rw [if_pos c16] at H
      have c16b0 : decide (((rd_T30 t136 x11_2).f1) ≤ x9_1) = true := decide_eq_true c16
      clear c16
      by_cases c17 : x9_1 ≤ ((rd_T30 t136 x11_2).f2)
      rotate_left
      ·rw [if_neg c17] at H
       have c17b0 : decide (x9_1 ≤ ((rd_T30 t136 x11_2).f2)) = false := decide_eq_false c17
       clear c17
       have H' := Aside0.mk H
       clear H
       obtain ⟨Ao19, co19, eo19⟩ := Kd.R_slice HO_6.out
       subst eo19
       have p140 : 0 ≤ (x11_2 : Int) := of_decide_eq_true aq1
       have q140 : x11_2 < (t136.length : Int) := of_decide_eq_true aq1
       obtain ⟨ad140, e140, hx140_0, hx140_1, hx140_2⟩ := at_T30 (Kd.R_reads' HO_6.out).2.2 x11_2 p140 q140
       cases e140
       replace p140 := eq_true p140
       replace q140 := eq_true q140
       have p141 : 0 ≤ (x11_2 : Int) := of_decide_eq_true aq1
       have q141 : x11_2 < (t136.length : Int) := of_decide_eq_true aq1
       obtain ⟨ad141, e141, hx141_0, hx141_1, hx141_2⟩ := at_T30 (Kd.R_reads' HO_6.out).2.2 x11_2 p141 q141
       obtain rfl : ad140 = ad141 := (by injection e141)
       replace p141 := eq_true p141
       replace q141 := eq_true q141
       go_wp2
       repeat (go_quiet (fail); try go_wp2)
       go_roundg k2
       case measure => have := HK1.out; have := HK2.out; omega
       case rel => exact ⟨(x10_2), (wrap64 (x11_2 + 1)), aq2, aq2, H', ⟨aq24⟩, ⟨aq11⟩, ⟨aq3⟩, ⟨aq0⟩⟩
      rw [if_pos c17] at H
      have c17b0 : decide (x9_1 ≤ ((rd_T30 t136 x11_2).f2)) = true := decide_eq_true c17
      clear c17
      have H' := Aside0.mk H
      clear H
      obtain ⟨Ao18, co18, eo18⟩ := Kd.R_slice HO_6.out
      subst eo18
      have p140 : 0 ≤ (x11_2 : Int) := of_decide_eq_true aq1
      have q140 : x11_2 < (t136.length : Int) := of_decide_eq_true aq1
      obtain ⟨ad140, e140, hx140_0, hx140_1, hx140_2⟩ := at_T30 (Kd.R_reads' HO_6.out).2.2 x11_2 p140 q140
      cases e140
      replace p140 := eq_true p140
      replace q140 := eq_true q140
      have p141 : 0 ≤ (x11_2 : Int) := of_decide_eq_true aq1
      have q141 : x11_2 < (t136.length : Int) := of_decide_eq_true aq1
      obtain ⟨ad141, e141, hx141_0, hx141_1, hx141_2⟩ := at_T30 (Kd.R_reads' HO_6.out).2.2 x11_2 p141 q141
      obtain rfl : ad140 = ad141 := (by injection e141)
      replace p141 := eq_true p141
      replace q141 := eq_true q141
      go_wp2
      repeat (go_quiet (fail); try go_wp2)
      go_roundg k2
      case measure => have := HK1.out; have := HK2.out; omega
      case rel => exact ⟨(wrap64 (x10_2 + 1)), (wrap64 (x11_2 + 1)), aq2, aq2, H', ⟨aq24⟩, ⟨aq11⟩, ⟨aq3⟩, ⟨aq0⟩⟩
     rw [if_neg c14] at H
     have c14b0 : decide (x11_2 < (t136.length : Int)) = false := decide_eq_false c14
     clear c14
     by_cases c21 : 0 ≤ x9_1
     rotate_left
     ·rw [if_neg c21] at H
      exact absurd H (by simp)
     rw [if_pos c21] at H
     have c21b0 : decide (0 ≤ x9_1) = true := decide_eq_true c21
     clear c21
     by_cases c22 : x9_1 < (t133.length : Int)
     rotate_left
     ·rw [if_neg c22] at H
      exact absurd H (by simp)
     rw [if_pos c22] at H
     have c22b0 : decide (x9_1 < (t133.length : Int)) = true := decide_eq_true c22
     clear c22
     by_cases c23 : ((rd_L5 t133 x9_1).length : Int) > t139
     ·rw [if_pos c23] at H
      have c23b0 : decide (t139 < ((rd_L5 t133 x9_1).length : Int)) = true := decide_eq_true c23
      clear c23
      obtain rfl := Option.some.inj H
      obtain ⟨Ao24, co24, eo24⟩ := Kd.R_slice HO_6.out
      subst eo24
      obtain ⟨Ao25, co25, eo25⟩ := Kd.S_slice HO_5.out
      subst eo25
      have p142 : 0 ≤ (x9_1 : Int) := of_decide_eq_true aq1
      have q142 : x9_1 < (t133.length : Int) := of_decide_eq_true aq1
      obtain ⟨ad142, A142_0, c142_0, e142, hx142_0, hl142_0, hi142_0⟩ := at_L5 (Kd.S_reads' HO_5.out).2.2 x9_1 p142 q142
      cases e142
      obtain ⟨ce142, hce142, hMe142, hcc142⟩ := Kd.S_get HO_5.out [] x9_1 p142 aq12
      obtain ⟨ve142_0, rfl, ge142_0⟩ := hMe142
      have hv142_0 := hcc142 0 _ rfl
      rw [Nat.add_zero, show ((Kd.slice 3 (Kd.int .i64))).sz = 1 from rfl, Nat.mul_one] at hv142_0
      replace hv142_0 := Option.some.inj (hv142_0.symm.trans hx142_0)
      rw [hv142_0] at ge142_0
      have HL142_0 := Aside0.mk (show Kd.R (Kd.int .i64) 3 _ _ _ _ (rd_L5 t133 x9_1) from ge142_0)
      clear hv142_0 ge142_0 hcc142 hce142
      have HR142_0 := Aside0.mk hi142_0
      have HC142_0 := Aside0.mk hl142_0
      clear hi142_0 hl142_0
      replace p142 := eq_true p142
      replace q142 := eq_true q142
      go_wp2
      repeat (go_quiet (fail); try go_wp2)
      go_ret
      exact ⟨aq6, aq0⟩
     rw [if_neg c23] at H
     have c23b0 : decide (t139 < ((rd_L5 t133 x9_1).length : Int)) = false := decide_eq_false c23
     clear c23
     by_cases c26 : ((rd_L5 t133 x9_1).length : Int) > x10_2
     ·rw [if_pos c26] at H
      have c26b0 : decide (x10_2 < ((rd_L5 t133 x9_1).length : Int)) = true := decide_eq_true c26
      clear c26
      obtain rfl := Option.some.inj H
      obtain ⟨Ao27, co27, eo27⟩ := Kd.R_slice HO_6.out
      subst eo27
      obtain ⟨Ao28, co28, eo28⟩ := Kd.S_slice HO_5.out
      subst eo28
      have p142 : 0 ≤ (x9_1 : Int) := of_decide_eq_true aq1
      have q142 : x9_1 < (t133.length : Int) := of_decide_eq_true aq1
      obtain ⟨ad142, A142_0, c142_0, e142, hx142_0, hl142_0, hi142_0⟩ := at_L5 (Kd.S_reads' HO_5.out).2.2 x9_1 p142 q142
      cases e142
      obtain ⟨ce142, hce142, hMe142, hcc142⟩ := Kd.S_get HO_5.out [] x9_1 p142 aq12
      obtain ⟨ve142_0, rfl, ge142_0⟩ := hMe142
      have hv142_0 := hcc142 0 _ rfl
      rw [Nat.add_zero, show ((Kd.slice 3 (Kd.int .i64))).sz = 1 from rfl, Nat.mul_one] at hv142_0
      replace hv142_0 := Option.some.inj (hv142_0.symm.trans hx142_0)
      rw [hv142_0] at ge142_0
      have HL142_0 := Aside0.mk (show Kd.R (Kd.int .i64) 3 _ _ _ _ (rd_L5 t133 x9_1) from ge142_0)
      clear hv142_0 ge142_0 hcc142 hce142
      have HR142_0 := Aside0.mk hi142_0
      have HC142_0 := Aside0.mk hl142_0
      clear hi142_0 hl142_0
      replace p142 := eq_true p142
      replace q142 := eq_true q142
      have p143 : 0 ≤ (x9_1 : Int) := of_decide_eq_true aq1
      have q143 : x9_1 < (t133.length : Int) := of_decide_eq_true aq1
      obtain ⟨ad143, A143_0, c143_0, e143, hx143_0, hl143_0, hi143_0⟩ := at_L5 (Kd.S_reads' HO_5.out).2.2 x9_1 p143 q143
      obtain rfl : ad142 = ad143 := (by injection e143)
      obtain ⟨ce143, hce143, hMe143, hcc143⟩ := Kd.S_get HO_5.out [] x9_1 p143 aq17
      obtain ⟨ve143_0, rfl, ge143_0⟩ := hMe143
      have hv143_0 := hcc143 0 _ rfl
      rw [Nat.add_zero, show ((Kd.slice 3 (Kd.int .i64))).sz = 1 from rfl, Nat.mul_one] at hv143_0
      replace hv143_0 := Option.some.inj (hv143_0.symm.trans hx143_0)
      rw [hv143_0] at ge143_0
      have HL143_0 := Aside0.mk (show Kd.R (Kd.int .i64) 3 _ _ _ _ (rd_L5 t133 x9_1) from ge143_0)
      clear hv143_0 ge143_0 hcc143 hce143
      have HR143_0 := Aside0.mk hi143_0
      have HC143_0 := Aside0.mk hl143_0
      clear hi143_0 hl143_0
      replace p143 := eq_true p143
      replace q143 := eq_true q143
      have ea_ := Option.some.inj (hx142_0.symm.trans hx143_0)
      injection ea_ with ea_ en_ ec_
      subst ea_
      subst ec_
      clear en_
      go_wp2
      repeat (go_quiet (fail); try go_wp2)
      go_ret
      exact ⟨aq6, aq0⟩
     rw [if_neg c26] at H
     have c26b0 : decide (x10_2 < ((rd_L5 t133 x9_1).length : Int)) = false := decide_eq_false c26
     clear c26
     by_cases c29 : x8_1 = true
     ·subst c29
      rw [if_pos rfl] at H
      have H' := Aside0.mk H
      clear H
      obtain ⟨Ao30, co30, eo30⟩ := Kd.R_slice HO_6.out
      subst eo30
      obtain ⟨Ao31, co31, eo31⟩ := Kd.S_slice HO_5.out
      subst eo31
      have p142 : 0 ≤ (x9_1 : Int) := of_decide_eq_true aq1
      have q142 : x9_1 < (t133.length : Int) := of_decide_eq_true aq1
      obtain ⟨ad142, A142_0, c142_0, e142, hx142_0, hl142_0, hi142_0⟩ := at_L5 (Kd.S_reads' HO_5.out).2.2 x9_1 p142 q142
      cases e142
      obtain ⟨ce142, hce142, hMe142, hcc142⟩ := Kd.S_get HO_5.out [] x9_1 p142 aq12
      obtain ⟨ve142_0, rfl, ge142_0⟩ := hMe142
      have hv142_0 := hcc142 0 _ rfl
      rw [Nat.add_zero, show ((Kd.slice 3 (Kd.int .i64))).sz = 1 from rfl, Nat.mul_one] at hv142_0
      replace hv142_0 := Option.some.inj (hv142_0.symm.trans hx142_0)
      rw [hv142_0] at ge142_0
      have HL142_0 := Aside0.mk (show Kd.R (Kd.int .i64) 3 _ _ _ _ (rd_L5 t133 x9_1) from ge142_0)
      clear hv142_0 ge142_0 hcc142 hce142
      have HR142_0 := Aside0.mk hi142_0
      have HC142_0 := Aside0.mk hl142_0
      clear hi142_0 hl142_0
      replace p142 := eq_true p142
      replace q142 := eq_true q142
      have p143 : 0 ≤ (x9_1 : Int) := of_decide_eq_true aq1
      have q143 : x9_1 < (t133.length : Int) := of_decide_eq_true aq1
      obtain ⟨ad143, A143_0, c143_0, e143, hx143_0, hl143_0, hi143_0⟩ := at_L5 (Kd.S_reads' HO_5.out).2.2 x9_1 p143 q143
      obtain rfl : ad142 = ad143 := (by injection e143)
      obtain ⟨ce143, hce143, hMe143, hcc143⟩ := Kd.S_get HO_5.out [] x9_1 p143 aq17
      obtain ⟨ve143_0, rfl, ge143_0⟩ := hMe143
      have hv143_0 := hcc143 0 _ rfl
      rw [Nat.add_zero, show ((Kd.slice 3 (Kd.int .i64))).sz = 1 from rfl, Nat.mul_one] at hv143_0
      replace hv143_0 := Option.some.inj (hv143_0.symm.trans hx143_0)
      rw [hv143_0] at ge143_0
      have HL143_0 := Aside0.mk (show Kd.R (Kd.int .i64) 3 _ _ _ _ (rd_L5 t133 x9_1) from ge143_0)
      clear hv143_0 ge143_0 hcc143 hce143
      have HR143_0 := Aside0.mk hi143_0
      have HC143_0 := Aside0.mk hl143_0
      clear hi143_0 hl143_0
      replace p143 := eq_true p143
      replace q143 := eq_true q143
      have ea_ := Option.some.inj (hx142_0.symm.trans hx143_0)
      injection ea_ with ea_ en_ ec_
      subst ea_
      subst ec_
      clear en_
      go_wp2
      repeat (go_quiet (fail); try go_wp2)
      go_roundg k2
      case measure => have := HK1.out; have := HK2.out; omega
      case rel => exact ⟨(true), (wrap64 (x9_1 + 1)), aq2, aq2, H', ⟨aq24⟩, ⟨aq11⟩, ⟨aq3⟩, ⟨aq0⟩⟩
     replace c29 := Bool.eq_false_iff.mpr c29
     subst c29
     rw [if_neg nf_] at H
     have H' := Aside0.mk H
     clear H
     obtain ⟨Ao32, co32, eo32⟩ := Kd.R_slice HO_6.out
     subst eo32
     obtain ⟨Ao33, co33, eo33⟩ := Kd.S_slice HO_5.out
     subst eo33
     have p142 : 0 ≤ (x9_1 : Int) := of_decide_eq_true aq1
     have q142 : x9_1 < (t133.length : Int) := of_decide_eq_true aq1
     obtain ⟨ad142, A142_0, c142_0, e142, hx142_0, hl142_0, hi142_0⟩ := at_L5 (Kd.S_reads' HO_5.out).2.2 x9_1 p142 q142
     cases e142
     obtain ⟨ce142, hce142, hMe142, hcc142⟩ := Kd.S_get HO_5.out [] x9_1 p142 aq12
     obtain ⟨ve142_0, rfl, ge142_0⟩ := hMe142
     have hv142_0 := hcc142 0 _ rfl
     rw [Nat.add_zero, show ((Kd.slice 3 (Kd.int .i64))).sz = 1 from rfl, Nat.mul_one] at hv142_0
     replace hv142_0 := Option.some.inj (hv142_0.symm.trans hx142_0)
     rw [hv142_0] at ge142_0
     have HL142_0 := Aside0.mk (show Kd.R (Kd.int .i64) 3 _ _ _ _ (rd_L5 t133 x9_1) from ge142_0)
     clear hv142_0 ge142_0 hcc142 hce142
     have HR142_0 := Aside0.mk hi142_0
     have HC142_0 := Aside0.mk hl142_0
     clear hi142_0 hl142_0
     replace p142 := eq_true p142
     replace q142 := eq_true q142
     have p143 : 0 ≤ (x9_1 : Int) := of_decide_eq_true aq1
     have q143 : x9_1 < (t133.length : Int) := of_decide_eq_true aq1
     obtain ⟨ad143, A143_0, c143_0, e143, hx143_0, hl143_0, hi143_0⟩ := at_L5 (Kd.S_reads' HO_5.out).2.2 x9_1 p143 q143
     obtain rfl : ad142 = ad143 := (by injection e143)
     obtain ⟨ce143, hce143, hMe143, hcc143⟩ := Kd.S_get HO_5.out [] x9_1 p143 aq17
     obtain ⟨ve143_0, rfl, ge143_0⟩ := hMe143
     have hv143_0 := hcc143 0 _ rfl
     rw [Nat.add_zero, show ((Kd.slice 3 (Kd.int .i64))).sz = 1 from rfl, Nat.mul_one] at hv143_0
     replace hv143_0 := Option.some.inj (hv143_0.symm.trans hx143_0)
     rw [hv143_0] at ge143_0
     have HL143_0 := Aside0.mk (show Kd.R (Kd.int .i64) 3 _ _ _ _ (rd_L5 t133 x9_1) from ge143_0)
     clear hv143_0 ge143_0 hcc143 hce143
     have HR143_0 := Aside0.mk hi143_0
     have HC143_0 := Aside0.mk hl143_0
     clear hi143_0 hl143_0
     replace p143 := eq_true p143
     replace q143 := eq_true q143
     have ea_ := Option.some.inj (hx142_0.symm.trans hx143_0)
     injection ea_ with ea_ en_ ec_
     subst ea_
     subst ec_
     clear en_
     have p144 : 0 ≤ (x9_1 : Int) := of_decide_eq_true aq1
     have q144 : x9_1 < (t133.length : Int) := of_decide_eq_true aq1
     obtain ⟨ad144, A144_0, c144_0, e144, hx144_0, hl144_0, hi144_0⟩ := at_L5 (Kd.S_reads' HO_5.out).2.2 x9_1 p144 q144
     obtain rfl : ad142 = ad144 := (by injection e144)
     obtain ⟨ce144, hce144, hMe144, hcc144⟩ := Kd.S_get HO_5.out [] x9_1 p144 (by first | exact q144 | exact of_decide_eq_true aq1 | (have e_ := (Kd.S_reads' HO_5.out).1; omega))
     obtain ⟨ve144_0, rfl, ge144_0⟩ := hMe144
     have hv144_0 := hcc144 0 _ rfl
     rw [Nat.add_zero, show ((Kd.slice 3 (Kd.int .i64))).sz = 1 from rfl, Nat.mul_one] at hv144_0
     replace hv144_0 := Option.some.inj (hv144_0.symm.trans hx144_0)
     rw [hv144_0] at ge144_0
     have HL144_0 := Aside0.mk (show Kd.R (Kd.int .i64) 3 _ _ _ _ (rd_L5 t133 x9_1) from ge144_0)
     clear hv144_0 ge144_0 hcc144 hce144
     have HR144_0 := Aside0.mk hi144_0
     have HC144_0 := Aside0.mk hl144_0
     clear hi144_0 hl144_0
     replace p144 := eq_true p144
     replace q144 := eq_true q144
     have ea_ := Option.some.inj (hx142_0.symm.trans hx144_0)
     injection ea_ with ea_ en_ ec_
     subst ea_
     subst ec_
     clear en_
     go_wp2
     repeat (go_quiet (fail); try go_wp2)
     go_roundg k2
     case measure => have := HK1.out; have := HK2.out; omega
     case rel => exact ⟨((((rd_L5 t133 x9_1).length : Int) == t139)), (wrap64 (x9_1 + 1)), aq2, aq2, H', ⟨aq24⟩, ⟨aq11⟩, ⟨aq3⟩, ⟨aq0⟩⟩
end Go.Proofs.YtianfjhhhhmjlaaDoor.PLiveMost
