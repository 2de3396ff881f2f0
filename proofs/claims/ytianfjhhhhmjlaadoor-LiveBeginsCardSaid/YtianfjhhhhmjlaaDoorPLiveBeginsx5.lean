-- Written by print2.py over the kit's printer. Not trusted: Lean checks it.
import Derived.Test.YtianfjhhhhmjlaaDoorPLiveBeginshqq
import Derived.Test.YtianfjhhhhmjlaaDoorPLiveBeginsx0
import Derived.Test.YtianfjhhhhmjlaaDoorPLiveBeginsx2
import Derived.Test.YtianfjhhhhmjlaaDoorPLiveBeginsx4
import Derived.Test.YtianfjhhhhmjlaaDoorPLiveBeginshlahead
namespace Go.Proofs.YtianfjhhhhmjlaaDoor.PLiveBegins
open Go.RowKit Go.Proofs.YtianfjhhhhmjlaaDoorW.PrintWords Go.Proofs.YtianfjhhhhmjlaaDoorW.PrintLast Go.Proofs.YtianfjhhhhmjlaaDoorW.PrintMore
attribute [local go_sem] max2_int min2_int max_two min_two max_three min_three max_four min_four   -- for this text's walks alone
set_option linter.unusedVariables false
set_option linter.unusedSimpArgs false

/-! ### palinglaw15_LiveBegins: function 5 -/
mutual
def palinglaw15_LiveBegins.j0 : Nat → List (S39) → Bool → Option (Bool)
  | 0, _, _ => none
  | k + 1, x0, x26 => if x26 = true then (some true) else ((palingref15_Regs.f k x0).bind fun t219 => (palinglaw15_LiveBegins.l0 k x0 t219 ([] : List (S39)) 0))
def palinglaw15_LiveBegins.l0 : Nat → List (S39) → List Int → List (S39) → Int → Option (Bool)
  | 0, _, _, _, _ => none
  | k + 1, x0, x5, x6, x7 => if x7 < (x5.length : Int) then (if 0 ≤ x7 then (if x6.length < 2513169434916 then (palinglaw15_LiveBegins.l0 k x0 x5 (x6 ++ [(⟨0, 0, rd x5 x7, 0, 0, 0, 0⟩ : S39)]) (wrap64 (x7 + 1))) else (none)) else (none)) else (palinglaw15_LiveBegins.l1 k x0 x6 (x6.length : Int) 0)
def palinglaw15_LiveBegins.l1 : Nat → List (S39) → List (S39) → Int → Int → Option (Bool)
  | 0, _, _, _, _ => none
  | k + 1, x0, x6, x8, x9 => if x9 < (x0.length : Int) then (if 0 ≤ x9 then (if ((rd_T39 x0 x9).f6) < (-1000) then (palinglaw15_LiveBegins.j3 k x0 x6 x8 x9 true ((rd_T39 x0 x9).f0) ((rd_T39 x0 x9).f1) ((rd_T39 x0 x9).f2) ((rd_T39 x0 x9).f3) ((rd_T39 x0 x9).f4) ((rd_T39 x0 x9).f5) ((rd_T39 x0 x9).f6)) else (palinglaw15_LiveBegins.j3 k x0 x6 x8 x9 (decide (((rd_T39 x0 x9).f6) > 1000)) ((rd_T39 x0 x9).f0) ((rd_T39 x0 x9).f1) ((rd_T39 x0 x9).f2) ((rd_T39 x0 x9).f3) ((rd_T39 x0 x9).f4) ((rd_T39 x0 x9).f5) ((rd_T39 x0 x9).f6))) else (none)) else ((live_Ahead.f k x0).bind fun t234 => ((live_Ahead.f k x6).bind fun t237 => (palinglaw15_LiveBegins.l2 k x0 x8 t234 t237 0)))
def palinglaw15_LiveBegins.j3 : Nat → List (S39) → List (S39) → Int → Int → Bool → Int → Int → Int → Int → Int → Int → Int → Option (Bool)
  | 0, _, _, _, _, _, _, _, _, _, _, _, _ => none
  | k + 1, x0, x6, x8, x9, x62, x228000, x228001, x228002, x228003, x228004, x228005, x228006 => if x62 = true then (some true) else (if x228006 < 0 then (if x6.length < 2513169434916 then (palinglaw15_LiveBegins.l1 k x0 (x6 ++ [(⟨x228000, x228001, x228002, x228003, x228004, x228005, (-1)⟩ : S39)]) x8 (wrap64 (x9 + 1))) else (none)) else (if x6.length < 2513169434916 then (palinglaw15_LiveBegins.l1 k x0 (x6 ++ [(⟨x228000, x228001, x228002, x228003, x228004, x228005, wrap64 (x228006 + x8)⟩ : S39)]) x8 (wrap64 (x9 + 1))) else (none)))
def palinglaw15_LiveBegins.l2 : Nat → List (S39) → Int → List (List Int) → List (List Int) → Int → Option (Bool)
  | 0, _, _, _, _, _ => none
  | k + 1, x0, x8, x11, x12, x13 => if x13 < (x0.length : Int) then (if 0 ≤ x13 then (if x13 < (x11.length : Int) then (if 0 ≤ (wrap64 (x8 + x13)) then (if (wrap64 (x8 + x13)) < (x12.length : Int) then ((palingref14_Ints.f k (rd_L5 x11 x13) (rd_L5 x12 (wrap64 (x8 + x13)))).bind fun t242 => (if t242 = true then (palinglaw15_LiveBegins.l2 k x0 x8 x11 x12 (wrap64 (x13 + 1))) else (none))) else (none)) else (none)) else (none)) else (none)) else (if (x12.length : Int) = 0 then (some true) else (if 0 < (x12.length : Int) then (some (((rd_L5 x12 0).length : Int) == 0)) else (none)))
end
def palinglaw15_LiveBegins.f (k : Nat) (l0 : List (S39)) : Option (Bool) := (palinglaw15_awake.f k).bind fun t217 => (if t217 = true then ((palinglaw15_small.f k l0).bind fun t218 => (if t218 = true then (palinglaw15_LiveBegins.j0 k l0 (decide ((l0.length : Int) > 20))) else (palinglaw15_LiveBegins.j0 k l0 true))) else (none))
theorem palinglaw15_LiveBegins.mono_l : ∀ k, (∀ y0 y1, LeO (palinglaw15_LiveBegins.j0 k y0 y1) (palinglaw15_LiveBegins.j0 (k + 1) y0 y1)) ∧ (∀ y0 y1 y2 y3, LeO (palinglaw15_LiveBegins.l0 k y0 y1 y2 y3) (palinglaw15_LiveBegins.l0 (k + 1) y0 y1 y2 y3)) ∧ (∀ y0 y1 y2 y3, LeO (palinglaw15_LiveBegins.l1 k y0 y1 y2 y3) (palinglaw15_LiveBegins.l1 (k + 1) y0 y1 y2 y3)) ∧ (∀ y0 y1 y2 y3 y4 y5 y6 y7 y8 y9 y10 y11, LeO (palinglaw15_LiveBegins.j3 k y0 y1 y2 y3 y4 y5 y6 y7 y8 y9 y10 y11) (palinglaw15_LiveBegins.j3 (k + 1) y0 y1 y2 y3 y4 y5 y6 y7 y8 y9 y10 y11)) ∧ (∀ y0 y1 y2 y3 y4, LeO (palinglaw15_LiveBegins.l2 k y0 y1 y2 y3 y4) (palinglaw15_LiveBegins.l2 (k + 1) y0 y1 y2 y3 y4))
  | 0 => ⟨fun _ _ r h => by simp [palinglaw15_LiveBegins.j0] at h, fun _ _ _ _ r h => by simp [palinglaw15_LiveBegins.l0] at h, fun _ _ _ _ r h => by simp [palinglaw15_LiveBegins.l1] at h, fun _ _ _ _ _ _ _ _ _ _ _ _ r h => by simp [palinglaw15_LiveBegins.j3] at h, fun _ _ _ _ _ r h => by simp [palinglaw15_LiveBegins.l2] at h⟩
  | k + 1 => by
    obtain ⟨ih0, ih1, ih2, ih3, ih4⟩ := palinglaw15_LiveBegins.mono_l k
    refine ⟨?_, ?_, ?_, ?_, ?_⟩ <;> intros <;> (first | unfold palinglaw15_LiveBegins.j0 | unfold palinglaw15_LiveBegins.l0 | unfold palinglaw15_LiveBegins.l1 | unfold palinglaw15_LiveBegins.j3 | unfold palinglaw15_LiveBegins.l2) <;> repeat' (first | (with_reducible first | exact ih0 _ _ | exact ih1 _ _ _ _ | exact ih2 _ _ _ _ | exact ih3 _ _ _ _ _ _ _ _ _ _ _ _ | exact ih4 _ _ _ _ _ | exact live_Ahead.mono _ _ | exact palinglaw15_awake.mono _ | exact palinglaw15_small.mono _ _ | exact palingref14_Ints.mono _ _ _ | exact palingref15_Regs.mono _ _ | exact LeO.refl _ | exact LeO.none _ | refine LeO.ite ?_ ?_ | refine LeO.bind ?_ (fun _ => ?_)) | exact ih0 _ _ | exact ih1 _ _ _ _ | exact ih2 _ _ _ _ | exact ih3 _ _ _ _ _ _ _ _ _ _ _ _ | exact ih4 _ _ _ _ _ | exact live_Ahead.mono _ _ | exact palinglaw15_awake.mono _ | exact palinglaw15_small.mono _ _ | exact palingref14_Ints.mono _ _ _ | exact palingref15_Regs.mono _ _ | exact LeO.none _ | refine LeO.ite ?_ ?_ | refine LeO.bind ?_ (fun _ => ?_))
theorem palinglaw15_LiveBegins.mono : ∀ a0 k, LeO (palinglaw15_LiveBegins.f k a0) (palinglaw15_LiveBegins.f (k + 1) a0) := by
 intro a0 k
 obtain ⟨ih0, ih1, ih2, ih3, ih4⟩ := palinglaw15_LiveBegins.mono_l k
 unfold palinglaw15_LiveBegins.f
 repeat' (first | (with_reducible first | exact ih0 _ _ | exact ih1 _ _ _ _ | exact ih2 _ _ _ _ | exact ih3 _ _ _ _ _ _ _ _ _ _ _ _ | exact ih4 _ _ _ _ _ | exact live_Ahead.mono _ _ | exact palinglaw15_awake.mono _ | exact palinglaw15_small.mono _ _ | exact palingref14_Ints.mono _ _ _ | exact palingref15_Regs.mono _ _ | exact LeO.refl _ | exact LeO.none _ | refine LeO.ite ?_ ?_ | refine LeO.bind ?_ (fun _ => ?_)) | exact ih0 _ _ | exact ih1 _ _ _ _ | exact ih2 _ _ _ _ | exact ih3 _ _ _ _ _ _ _ _ _ _ _ _ | exact ih4 _ _ _ _ _ | exact live_Ahead.mono _ _ | exact palinglaw15_awake.mono _ | exact palinglaw15_small.mono _ _ | exact palingref14_Ints.mono _ _ _ | exact palingref15_Regs.mono _ _ | exact LeO.none _ | refine LeO.ite ?_ ?_ | refine LeO.bind ?_ (fun _ => ?_))
set_option maxHeartbeats 8000000 in
set_option maxRecDepth 100000 in
theorem palinglaw15_LiveBegins.calls (k : Nat) (A0 : Option Addr) (c0 : Nat) (l0 : List (S39)) (r : Bool) (w : World) (hr0 : Kd.C k39 w A0 l0.length l0) (hc0 : l0.length ≤ c0) (h : palinglaw15_LiveBegins.f k l0 = some r) (hgl : GlobOK w) :
    Calls Tryd.prog 5 #[.slice A0 l0.length c0] w fun e w' => e = .returned (.bool r) ∧ Below w.heap.size w w' := by
 have hu39 := Tryd.underlying39
 have HR0 := Aside0.mk hr0
 have HC0 := Aside0.mk hc0
 clear hr0 hc0
 have HB := Aside0.mk (Below.refl w.heap.size w)
 have HGL := Aside0.mk hgl
 clear hgl
 have H : ((palinglaw15_awake.f k).bind fun t217 => (if t217 = true then ((palinglaw15_small.f k l0).bind fun t218 => (if t218 = true then (palinglaw15_LiveBegins.j0 k l0 (decide ((l0.length : Int) > 20))) else (palinglaw15_LiveBegins.j0 k l0 true))) else (none))) = some r := h
 clear h
 obtain ⟨t217, A2, H⟩ := bS_ H
 by_cases c3 : t217 = true
 rotate_left
 ·replace c3 := Bool.eq_false_iff.mpr c3
  subst c3
  rw [if_neg nf_] at H
  exact absurd H (by simp)
 subst c3
 rw [if_pos rfl] at H
 obtain ⟨t218, A4, H⟩ := bS_ H
 have HC5 := Aside0.mk H
 clear H
 go_enter Tryd.func5, Tryd.ntmps5
 go_upto_region 5 with (first | (go_at_call 7; (with_reducible refine (palinglaw15_awake.calls k  true _ A2.out (GlobOK.step HGL.out aq0)).mono ?_); rintro e w6 ⟨rfl, hb⟩; replace HB := Aside0.mk (below_step aq0 hb); (try clear hb); (try clear hb2); (try clear hk); (try clear hi)) | (go_at_call 8; (with_reducible refine (palinglaw15_small.calls k _ _ l0 t218 _ ?side1 ?side2 A4.out).mono ?_); (case side1 => repeat (first | exact (Kd.C_below HR0.out HB.out) | (with_reducible refine Kd.C_alloc ?_ _) | (with_reducible refine Kd.C_drewN ?_ _) | (with_reducible refine Kd.C_drew ?_))); (case side2 => exact HC0.out); rintro e w' ⟨rfl, ⟨nd, rfl⟩⟩; (try first | exact ⟨rfl, _, World.drewN_drewN _ _ _⟩ | exact ⟨rfl, _, Eq.trans (World.drewN_drewN _ _ _) (congrArg (World.drewN _) (Nat.add_assoc _ _ _))⟩)))
 repeat (go_quiet (first | (go_at_call 7; (with_reducible refine (palinglaw15_awake.calls k  true _ A2.out (GlobOK.step HGL.out aq0)).mono ?_); rintro e w6 ⟨rfl, hb⟩; replace HB := Aside0.mk (below_step aq0 hb); (try clear hb); (try clear hb2); (try clear hk); (try clear hi)) | (go_at_call 8; (with_reducible refine (palinglaw15_small.calls k _ _ l0 t218 _ ?side1 ?side2 A4.out).mono ?_); (case side1 => repeat (first | exact (Kd.C_below HR0.out HB.out) | (with_reducible refine Kd.C_alloc ?_ _) | (with_reducible refine Kd.C_drewN ?_ _) | (with_reducible refine Kd.C_drew ?_))); (case side2 => exact HC0.out); rintro e w' ⟨rfl, ⟨nd, rfl⟩⟩; (try first | exact ⟨rfl, _, World.drewN_drewN _ _ _⟩ | exact ⟨rfl, _, Eq.trans (World.drewN_drewN _ _ _) (congrArg (World.drewN _) (Nat.add_assoc _ _ _))⟩))); go_upto_region 5 with (first | (go_at_call 7; (with_reducible refine (palinglaw15_awake.calls k  true _ A2.out (GlobOK.step HGL.out aq0)).mono ?_); rintro e w6 ⟨rfl, hb⟩; replace HB := Aside0.mk (below_step aq0 hb); (try clear hb); (try clear hb2); (try clear hk); (try clear hi)) | (go_at_call 8; (with_reducible refine (palinglaw15_small.calls k _ _ l0 t218 _ ?side1 ?side2 A4.out).mono ?_); (case side1 => repeat (first | exact (Kd.C_below HR0.out HB.out) | (with_reducible refine Kd.C_alloc ?_ _) | (with_reducible refine Kd.C_drewN ?_ _) | (with_reducible refine Kd.C_drew ?_))); (case side2 => exact HC0.out); rintro e w' ⟨rfl, ⟨nd, rfl⟩⟩; (try first | exact ⟨rfl, _, World.drewN_drewN _ _ _⟩ | exact ⟨rfl, _, Eq.trans (World.drewN_drewN _ _ _) (congrArg (World.drewN _) (Nat.add_assoc _ _ _))⟩))))
 (try simp only [Act.put, List.setIfInBounds_toArray, List.set_cons_zero, List.set_cons_succ])
 go_cut [26] (fun v26 wc => ∃ (kq : Nat) (x26_4 : Bool), v26 = .bool x26_4 ∧ Aside0 (palinglaw15_LiveBegins.j0 kq l0 x26_4 = some r) ∧ Aside0 (kq ≤ k) ∧ Aside0 (Below w.heap.size w wc))
 case first =>
  have H := HC5.out
  clear HC5
  by_cases c7 : t218 = true
  ·subst c7
   rw [if_pos rfl] at H
   have H' := Aside0.mk H
   clear H
   go_wp2
   repeat (go_quiet (fail); try go_wp2)
   go_meet
   case rel => exact ⟨_, (decide ((l0.length : Int) > 20)), aq6, H', ⟨aq35⟩, ⟨aq0⟩⟩
  replace c7 := Bool.eq_false_iff.mpr c7
  subst c7
  rw [if_neg nf_] at H
  have H' := Aside0.mk H
  clear H
  go_wp2
  repeat (go_quiet (fail); try go_wp2)
  go_meet
  case rel => exact ⟨_, (true), aq6, H', ⟨aq35⟩, ⟨aq0⟩⟩
 case rest =>
  clear HC5
  obtain ⟨kq, x26_4, rfl, HA, HJ4, HB⟩ := hcut
  cases kq with
  | zero => exact absurd HA.out (by simp [palinglaw15_LiveBegins.j0])
  | succ kj4 =>
   have H := HA.out
   clear HA
   simp only [palinglaw15_LiveBegins.j0] at H
   by_cases c8 : x26_4 = true
   ·subst c8
    rw [if_pos rfl] at H
    obtain rfl := Option.some.inj H
    go_wp2
    repeat (go_quiet (fail); try go_wp2)
    go_ret
    exact ⟨aq11, aq0⟩
   replace c8 := Bool.eq_false_iff.mpr c8
   subst c8
   rw [if_neg nf_] at H
   obtain ⟨t219, A9, H⟩ := bS_ H
   have H' := Aside0.mk H
   clear H
   go_wp2_with (first | (go_at_call 22; (with_reducible refine (palingref15_Regs.calls kj4 _ _ l0 t219 _ ?side1 ?side2 A9.out).mono ?_); (case side1 => repeat (first | exact (Kd.C_below HR0.out HB.out) | (with_reducible refine Kd.C_alloc ?_ _) | (with_reducible refine Kd.C_drewN ?_ _) | (with_reducible refine Kd.C_drew ?_))); (case side2 => exact HC0.out); rintro e w10 ⟨v220, rfl, ho0, hb⟩; have HO221 := Aside0.mk (Kd.R_lower ho0 (below_size aq0)); replace HB := Aside0.mk (below_step aq0 hb); (try clear hb); (try clear hb2); (try clear hk); (try clear hi); (try clear ho0)))
   repeat (go_quiet (first | (go_at_call 22; (with_reducible refine (palingref15_Regs.calls kj4 _ _ l0 t219 _ ?side1 ?side2 A9.out).mono ?_); (case side1 => repeat (first | exact (Kd.C_below HR0.out HB.out) | (with_reducible refine Kd.C_alloc ?_ _) | (with_reducible refine Kd.C_drewN ?_ _) | (with_reducible refine Kd.C_drew ?_))); (case side2 => exact HC0.out); rintro e w10 ⟨v220, rfl, ho0, hb⟩; have HO221 := Aside0.mk (Kd.R_lower ho0 (below_size aq0)); replace HB := Aside0.mk (below_step aq0 hb); (try clear hb); (try clear hb2); (try clear hk); (try clear hi); (try clear ho0))); try go_wp2_with (first | (go_at_call 22; (with_reducible refine (palingref15_Regs.calls kj4 _ _ l0 t219 _ ?side1 ?side2 A9.out).mono ?_); (case side1 => repeat (first | exact (Kd.C_below HR0.out HB.out) | (with_reducible refine Kd.C_alloc ?_ _) | (with_reducible refine Kd.C_drewN ?_ _) | (with_reducible refine Kd.C_drew ?_))); (case side2 => exact HC0.out); rintro e w10 ⟨v220, rfl, ho0, hb⟩; have HO221 := Aside0.mk (Kd.R_lower ho0 (below_size aq0)); replace HB := Aside0.mk (below_step aq0 hb); (try clear hb); (try clear hb2); (try clear hk); (try clear hi); (try clear ho0))))
   go_loopg [6, 7] kj4 (fun kq v6 v7 w' => ∃ (x6_2 : List (S39)) (x7_2 : Int), v7 = .int .i64 x7_2 ∧ Aside0 (palinglaw15_LiveBegins.l0 kq l0 t219 x6_2 x7_2 = some r) ∧ Aside0 (kq ≤ kj4) ∧ Aside0 (Kd.R (Kd.int .i64) 3 w' w.heap.size (fun _ => True) v220 t219) ∧ Aside0 (Kd.R k39 39 w' w.heap.size (fun _ => True) v6 x6_2) ∧ Aside0 (Below w.heap.size w w'))
   case atStart => exact ⟨(([] : List (S39))), (0), aq6, H', ⟨Nat.le_refl _⟩, ⟨by (with_reducible repeat (first | apply Kd.R_alloc | apply Kd.R_drewN | apply Kd.R_drew)); exact HO221.out⟩, ⟨aq24⟩, ⟨aq0⟩⟩
   case round =>
    clear H'
    obtain ⟨x6_2, x7_2, rfl, HA, HK2, HO_5, HO_6, HB⟩ := hrel
    cases gk with
    | zero => exact absurd HA.out (by simp [palinglaw15_LiveBegins.l0])
    | succ k2 =>
     have H := HA.out
     clear HA
     simp only [palinglaw15_LiveBegins.l0] at H
     by_cases c11 : x7_2 < (t219.length : Int)
     ·rw [if_pos c11] at H
      have c11b0 : decide (x7_2 < (t219.length : Int)) = true := decide_eq_true c11
      clear c11
      by_cases c12 : 0 ≤ x7_2
      rotate_left
      ·rw [if_neg c12] at H
       exact absurd H (by simp)
      rw [if_pos c12] at H
      have c12b0 : decide (0 ≤ x7_2) = true := decide_eq_true c12
      clear c12
      by_cases c13 : x6_2.length < 2513169434916
      rotate_left
      ·rw [if_neg c13] at H
       exact absurd H (by simp)
      rw [if_pos c13] at H
      have LMc13 := Aside0.mk c13
      clear c13
      obtain ⟨y223, hy_⟩ : ∃ y_ : List (S39), y_ = (x6_2 ++ [(⟨0, 0, rd t219 x7_2, 0, 0, 0, 0⟩ : S39)]) := ⟨_, rfl⟩
      replace H : (palinglaw15_LiveBegins.l0 k2 l0 t219 y223 (wrap64 (x7_2 + 1))) = some r := aq1
      have Ny223 := Aside0.mk hy_
      clear hy_
      have H' := Aside0.mk H
      clear H
      obtain ⟨Ao14, co14, eo14⟩ := Kd.R_slice HO_5.out
      subst eo14
      have p222 : 0 ≤ (x7_2 : Int) := of_decide_eq_true aq2
      have q222 : x7_2 < (t219.length : Int) := of_decide_eq_true aq2
      obtain ⟨ad222, e222, hx222_0⟩ := Kd.at_int (Kd.R_reads' HO_5.out).2.2 x7_2 p222 q222
      cases e222
      replace p222 := eq_true p222
      replace q222 := eq_true q222
      go_wp2_with (first | ((with_reducible refine gate_builtin (b := .append) (xs := #[.tmp 35, .tmp 41]) rfl ?_); (try (refine gate_guard (by rfl) ?_; dsimp only)); at_builtin; refine Kd.R_append k39 (w0 := w) w.heap.size rfl (.tmp 35) (.tmp 41) 44 39 (.agg #[(.int .i64 0), (.int .i64 0), (.int .i64 0), (.int .i64 0), (.int .i64 0), (.int .i64 0), (.int .i64 0)]) 56 rfl Tryd.underlying44 info39 rfl (by decide) (by omega) u6 x6_2 (⟨0, 0, rd t219 x7_2, 0, 0, 0, 0⟩ : S39) [.int .i64 0, .int .i64 0, .int .i64 (rd t219 x7_2), .int .i64 0, .int .i64 0, .int .i64 0, .int .i64 0] (fun _ => True) (fun _ => False) rfl rfl ?aP (fun _ hk => hk.elim) ?aF ?aO ?aB ?aS ?aL ?_; (case aP => exact k39_mkM _ _ _ (⟨0, 0, rd t219 x7_2, 0, 0, 0, 0⟩ : S39)); (case aB => exact aq0); (case aF => exact (fun _ _ => trivial)); (case aO => exact aq12); (case aS => exact (below_size aq0)); (case aL => have := LMc13.out; omega); intro v224 w15 ho hb hg hat; rw [← Ny223.out] at ho; replace HO_5 := Aside0.mk (Kd.R_over' aq5 (Kd.R_typed aq12) (by decide) hg); replace HB := Aside0.mk (hb); have HO225 := Aside0.mk (ho); clear HO_6; clear ho hb hg hat) | (go_quiet (fail)))
      go_roundg k2
      case measure => have := HJ4.out; have := HK2.out; omega
      case rel => exact ⟨(y223), (wrap64 (x7_2 + 1)), aq6, H', ⟨by have := HJ4.out; have := HK2.out; omega⟩, ⟨aq5⟩, ⟨by (with_reducible repeat (first | apply Kd.R_alloc | apply Kd.R_drewN | apply Kd.R_drew)); exact HO225.out⟩, ⟨aq0⟩⟩
     rw [if_neg c11] at H
     have c11b0 : decide (x7_2 < (t219.length : Int)) = false := decide_eq_false c11
     clear c11
     have H' := Aside0.mk H
     clear H
     obtain ⟨Ao16, co16, eo16⟩ := Kd.R_slice HO_5.out
     subst eo16
     obtain ⟨Ao17, co17, eo17⟩ := Kd.R_slice HO_6.out
     subst eo17
     go_wp2
     repeat (go_quiet (fail); try go_wp2)
     go_loopg [6, 9] k2 (fun kq v6 v9 w' => ∃ (x6_3 : List (S39)) (x9_3 : Int), v9 = .int .i64 x9_3 ∧ Aside0 (palinglaw15_LiveBegins.l1 kq l0 x6_3 (x6_2.length : Int) x9_3 = some r) ∧ Aside0 (kq ≤ k2) ∧ Aside0 (Kd.R k39 39 w' w.heap.size (fun _ => True) v6 x6_3) ∧ Aside0 (Below w.heap.size w w'))
     case atStart => exact ⟨(x6_2), (0), aq6, H', ⟨Nat.le_refl _⟩, ⟨aq12⟩, ⟨aq0⟩⟩
     case round =>
      clear H'
      obtain ⟨x6_3, x9_3, rfl, HA, HK3, HO_6, HB⟩ := hrel
      cases gk with
      | zero => exact absurd HA.out (by simp [palinglaw15_LiveBegins.l1])
      | succ k3 =>
       have H := HA.out
       clear HA
       simp only [palinglaw15_LiveBegins.l1] at H
       by_cases c18 : x9_3 < (l0.length : Int)
       rotate_left
       ·rw [if_neg c18] at H
        have c18b0 : decide (x9_3 < (l0.length : Int)) = false := decide_eq_false c18
        clear c18
        obtain ⟨t234, A34, H⟩ := bS_ H
        obtain ⟨t237, A35, H⟩ := bS_ H
        have H' := Aside0.mk H
        clear H
        go_wp2_with (first | (go_at_call 12; (with_reducible refine (live_Ahead.calls k3 _ _ l0 t234 _ ?side1 ?side2 A34.out (GlobOK.step HGL.out aq0)).mono ?_); (case side1 => repeat (first | exact (Kd.C_below HR0.out HB.out) | (with_reducible refine Kd.C_alloc ?_ _) | (with_reducible refine Kd.C_drewN ?_ _) | (with_reducible refine Kd.C_drew ?_))); (case side2 => exact HC0.out); rintro e w36 ⟨v235, rfl, ho0, hb⟩; replace HO_6 := Aside0.mk (Kd.R_below aq12 hb); have HO236 := Aside0.mk (Kd.S_lower ho0 (below_size aq0)); replace HB := Aside0.mk (below_step aq0 hb); (try clear hb); (try clear hb2); (try clear hk); (try clear hi); (try clear ho0); obtain ⟨Ao37, co37, eo37⟩ := Kd.R_slice HO_6.out; subst eo37) | (go_at_call 12; (with_reducible refine (live_Ahead.calls k3 _ _ x6_3 t237 _ ?side1 ?side2 A35.out (GlobOK.step HGL.out aq0)).mono ?_); (case side1 => repeat (first | exact (Kd.R_reads' HO_6.out).2.2 | (with_reducible refine Kd.C_alloc ?_ _) | (with_reducible refine Kd.C_drewN ?_ _) | (with_reducible refine Kd.C_drew ?_))); (case side2 => exact (Kd.R_reads' HO_6.out).2.1); rintro e w38 ⟨v238, rfl, ho0, hb⟩; replace HO_6 := Aside0.mk (Kd.R_below aq12 hb); have HO239 := Aside0.mk (Kd.S_lower (Kd.S_new' ho0 (Kd.S_lt aq19)) (below_size aq0)); replace HO236 := Aside0.mk (Kd.S_elder' aq19 (Kd.S_base ho0) hb); replace HB := Aside0.mk (below_step aq0 hb); (try clear hb); (try clear hb2); (try clear hk); (try clear hi); (try clear ho0)))
        repeat (go_quiet (first | (go_at_call 12; (with_reducible refine (live_Ahead.calls k3 _ _ l0 t234 _ ?side1 ?side2 A34.out (GlobOK.step HGL.out aq0)).mono ?_); (case side1 => repeat (first | exact (Kd.C_below HR0.out HB.out) | (with_reducible refine Kd.C_alloc ?_ _) | (with_reducible refine Kd.C_drewN ?_ _) | (with_reducible refine Kd.C_drew ?_))); (case side2 => exact HC0.out); rintro e w36 ⟨v235, rfl, ho0, hb⟩; replace HO_6 := Aside0.mk (Kd.R_below aq12 hb); have HO236 := Aside0.mk (Kd.S_lower ho0 (below_size aq0)); replace HB := Aside0.mk (below_step aq0 hb); (try clear hb); (try clear hb2); (try clear hk); (try clear hi); (try clear ho0); obtain ⟨Ao37, co37, eo37⟩ := Kd.R_slice HO_6.out; subst eo37) | (go_at_call 12; (with_reducible refine (live_Ahead.calls k3 _ _ x6_3 t237 _ ?side1 ?side2 A35.out (GlobOK.step HGL.out aq0)).mono ?_); (case side1 => repeat (first | exact (Kd.R_reads' HO_6.out).2.2 | (with_reducible refine Kd.C_alloc ?_ _) | (with_reducible refine Kd.C_drewN ?_ _) | (with_reducible refine Kd.C_drew ?_))); (case side2 => exact (Kd.R_reads' HO_6.out).2.1); rintro e w38 ⟨v238, rfl, ho0, hb⟩; replace HO_6 := Aside0.mk (Kd.R_below aq12 hb); have HO239 := Aside0.mk (Kd.S_lower (Kd.S_new' ho0 (Kd.S_lt aq19)) (below_size aq0)); replace HO236 := Aside0.mk (Kd.S_elder' aq19 (Kd.S_base ho0) hb); replace HB := Aside0.mk (below_step aq0 hb); (try clear hb); (try clear hb2); (try clear hk); (try clear hi); (try clear ho0))); try go_wp2_with (first | (go_at_call 12; (with_reducible refine (live_Ahead.calls k3 _ _ l0 t234 _ ?side1 ?side2 A34.out (GlobOK.step HGL.out aq0)).mono ?_); (case side1 => repeat (first | exact (Kd.C_below HR0.out HB.out) | (with_reducible refine Kd.C_alloc ?_ _) | (with_reducible refine Kd.C_drewN ?_ _) | (with_reducible refine Kd.C_drew ?_))); (case side2 => exact HC0.out); rintro e w36 ⟨v235, rfl, ho0, hb⟩; replace HO_6 := Aside0.mk (Kd.R_below aq12 hb); have HO236 := Aside0.mk (Kd.S_lower ho0 (below_size aq0)); replace HB := Aside0.mk (below_step aq0 hb); (try clear hb); (try clear hb2); (try clear hk); (try clear hi); (try clear ho0); obtain ⟨Ao37, co37, eo37⟩ := Kd.R_slice HO_6.out; subst eo37) | (go_at_call 12; (with_reducible refine (live_Ahead.calls k3 _ _ x6_3 t237 _ ?side1 ?side2 A35.out (GlobOK.step HGL.out aq0)).mono ?_); (case side1 => repeat (first | exact (Kd.R_reads' HO_6.out).2.2 | (with_reducible refine Kd.C_alloc ?_ _) | (with_reducible refine Kd.C_drewN ?_ _) | (with_reducible refine Kd.C_drew ?_))); (case side2 => exact (Kd.R_reads' HO_6.out).2.1); rintro e w38 ⟨v238, rfl, ho0, hb⟩; replace HO_6 := Aside0.mk (Kd.R_below aq12 hb); have HO239 := Aside0.mk (Kd.S_lower (Kd.S_new' ho0 (Kd.S_lt aq19)) (below_size aq0)); replace HO236 := Aside0.mk (Kd.S_elder' aq19 (Kd.S_base ho0) hb); replace HB := Aside0.mk (below_step aq0 hb); (try clear hb); (try clear hb2); (try clear hk); (try clear hi); (try clear ho0))))
        go_loopg [13] k3 (fun kq v13 w' => ∃ (x13_4 : Int), v13 = .int .i64 x13_4 ∧ Aside0 (palinglaw15_LiveBegins.l2 kq l0 (x6_2.length : Int) t234 t237 x13_4 = some r) ∧ Aside0 (kq ≤ k3) ∧ Aside0 (Kd.S (Kd.slice 3 (Kd.int .i64)) 36 w' w.heap.size (fun k_ => some k_ ≠ (v238 : Value).ownBlock) v235 t234) ∧ Aside0 (Kd.S (Kd.slice 3 (Kd.int .i64)) 36 w' w.heap.size (fun k_ => some k_ ≠ (v235 : Value).ownBlock) v238 t237) ∧ Aside0 (Below w.heap.size w w'))
        case atStart => exact ⟨(0), aq6, H', ⟨Nat.le_refl _⟩, ⟨by (with_reducible repeat (first | apply Kd.S_alloc | apply Kd.S_drewN | apply Kd.S_drew)); exact Kd.S_mono HO236.out (fun _ hk => hk.2)⟩, ⟨by (with_reducible repeat (first | apply Kd.S_alloc | apply Kd.S_drewN | apply Kd.S_drew)); exact Kd.S_mono HO239.out (fun _ hk => hk.2)⟩, ⟨aq0⟩⟩
        case round =>
         clear H'
         obtain ⟨x13_4, rfl, HA, HK4, HO_11, HO_12, HB⟩ := hrel
         cases gk with
         | zero => exact absurd HA.out (by simp [palinglaw15_LiveBegins.l2])
         | succ k4 =>
          have H := HA.out
          clear HA
          simp only [palinglaw15_LiveBegins.l2] at H
          by_cases c39 : x13_4 < (l0.length : Int)
          rotate_left
          ·rw [if_neg c39] at H
           have c39b0 : decide (x13_4 < (l0.length : Int)) = false := decide_eq_false c39
           clear c39
           by_cases c51 : (t237.length : Int) = 0
           ·rw [if_pos c51] at H
            have c51b0 : ((t237.length : Int) == 0) = true := beq_iff_eq.mpr c51
            have c51b1 : ((t237.length : Int) != 0) = false := bne_eq_false_iff_eq.mpr c51
            clear c51
            obtain rfl := Option.some.inj H
            obtain ⟨Ao52, co52, eo52⟩ := Kd.S_slice HO_12.out
            subst eo52
            go_wp2
            repeat (go_quiet (fail); try go_wp2)
            go_ret
            exact ⟨aq11, aq0⟩
           rw [if_neg c51] at H
           have c51b0 : ((t237.length : Int) == 0) = false := beq_eq_false_iff_ne.mpr c51
           have c51b1 : ((t237.length : Int) != 0) = true := bne_iff_ne.mpr c51
           have c51b2 : ¬ (t237 = []) := fun h_ => c51 (by rw [h_]; rfl)
           by_cases c53 : 0 < (t237.length : Int)
           rotate_left
           ·rw [if_neg c53] at H
            exact absurd H (by simp)
           rw [if_pos c53] at H
           have c53b0 : decide (0 < (t237.length : Int)) = true := decide_eq_true c53
           have c53b1 : decide (0 < t237.length) = true := decide_eq_true (by omega)
           clear c53
           obtain rfl := Option.some.inj H
           obtain ⟨Ao54, co54, eo54⟩ := Kd.S_slice HO_12.out
           subst eo54
           have p243 : 0 ≤ (0 : Int) := (by omega)
           have q243 : 0 < (t237.length : Int) := of_decide_eq_true aq2
           obtain ⟨ad243, A243_0, c243_0, e243, hx243_0, hl243_0, hi243_0⟩ := at_L5 (Kd.S_reads' HO_12.out).2.2 0 p243 q243
           cases e243
           obtain ⟨ce243, hce243, hMe243, hcc243⟩ := Kd.S_get HO_12.out [] 0 p243 (by first | exact q243 | exact of_decide_eq_true aq2 | (have e_ := (Kd.S_reads' HO_12.out).1; omega))
           obtain ⟨ve243_0, rfl, ge243_0⟩ := hMe243
           have hv243_0 := hcc243 0 _ rfl
           rw [Nat.add_zero, show ((Kd.slice 3 (Kd.int .i64))).sz = 1 from rfl, Nat.mul_one] at hv243_0
           replace hv243_0 := Option.some.inj (hv243_0.symm.trans hx243_0)
           rw [hv243_0] at ge243_0
           have HL243_0 := Aside0.mk (show Kd.R (Kd.int .i64) 3 _ _ _ _ (rd_L5 t237 0) from ge243_0)
           clear hv243_0 ge243_0 hcc243 hce243
           have qi243 : (0 < t237.length) = True := eq_true (by omega)
           (try rw [show ((0 : Int)).toNat = 0 from rfl] at hx243_0)
           (try rw [Addr.add_zero'] at hx243_0)
           have HR243_0 := Aside0.mk hi243_0
           have HC243_0 := Aside0.mk hl243_0
           clear hi243_0 hl243_0
           replace p243 := eq_true p243
           replace q243 := eq_true q243
           go_wp2
           repeat (go_quiet (fail); try go_wp2)
           go_ret
           exact ⟨aq11, aq0⟩
          rw [if_pos c39] at H
          have c39b0 : decide (x13_4 < (l0.length : Int)) = true := decide_eq_true c39
          clear c39
          by_cases c40 : 0 ≤ x13_4
          rotate_left
          ·rw [if_neg c40] at H
           exact absurd H (by simp)
          rw [if_pos c40] at H
          have c40b0 : decide (0 ≤ x13_4) = true := decide_eq_true c40
          clear c40
          by_cases c41 : x13_4 < (t234.length : Int)
          rotate_left
          ·rw [if_neg c41] at H
           exact absurd H (by simp)
          rw [if_pos c41] at H
          have c41b0 : decide (x13_4 < (t234.length : Int)) = true := decide_eq_true c41
          clear c41
          obtain ⟨ji42, hji42⟩ : ∃ j_ : Int, (wrap64 ((x6_2.length : Int) + x13_4)) = j_ := ⟨_, rfl⟩
          replace H : (if 0 ≤ (ji42) then (if (ji42) < (t237.length : Int) then ((palingref14_Ints.f k4 (rd_L5 t234 x13_4) (rd_L5 t237 (ji42))).bind fun t242 => (if t242 = true then (palinglaw15_LiveBegins.l2 k4 l0 (x6_2.length : Int) t234 t237 (wrap64 (x13_4 + 1))) else (none))) else (none)) else (none)) = some r := by first | (rw [hji42] at H; exact H) | (simp only [hji42] at H ⊢; exact H)
          have hji42w : (IntKind.i64.wrap ((x6_2.length : Int) + x13_4)) = ji42 := (i64_w _).trans hji42
          by_cases c43 : 0 ≤ (ji42)
          rotate_left
          ·rw [if_neg c43] at H
           exact absurd H (by simp)
          rw [if_pos c43] at H
          have c43b0 : decide (0 ≤ (ji42)) = true := decide_eq_true c43
          clear c43
          by_cases c44 : (ji42) < (t237.length : Int)
          rotate_left
          ·rw [if_neg c44] at H
           exact absurd H (by simp)
          rw [if_pos c44] at H
          have c44b0 : decide ((ji42) < (t237.length : Int)) = true := decide_eq_true c44
          clear c44
          obtain ⟨t242, A45, H⟩ := bS_ H
          by_cases c46 : t242 = true
          rotate_left
          ·replace c46 := Bool.eq_false_iff.mpr c46
           subst c46
           rw [if_neg nf_] at H
           exact absurd H (by simp)
          subst c46
          rw [if_pos rfl] at H
          have H' := Aside0.mk H
          clear H
          obtain ⟨Ao47, co47, eo47⟩ := Kd.S_slice HO_11.out
          subst eo47
          have p240 : 0 ≤ (x13_4 : Int) := of_decide_eq_true aq2
          have q240 : x13_4 < (t234.length : Int) := of_decide_eq_true aq2
          obtain ⟨ad240, A240_0, c240_0, e240, hx240_0, hl240_0, hi240_0⟩ := at_L5 (Kd.S_reads' HO_11.out).2.2 x13_4 p240 q240
          cases e240
          obtain ⟨ce240, hce240, hMe240, hcc240⟩ := Kd.S_get HO_11.out [] x13_4 p240 (by first | exact q240 | exact of_decide_eq_true aq2 | (have e_ := (Kd.S_reads' HO_11.out).1; omega))
          obtain ⟨ve240_0, rfl, ge240_0⟩ := hMe240
          have hv240_0 := hcc240 0 _ rfl
          rw [Nat.add_zero, show ((Kd.slice 3 (Kd.int .i64))).sz = 1 from rfl, Nat.mul_one] at hv240_0
          replace hv240_0 := Option.some.inj (hv240_0.symm.trans hx240_0)
          rw [hv240_0] at ge240_0
          have HL240_0 := Aside0.mk (show Kd.R (Kd.int .i64) 3 _ _ _ _ (rd_L5 t234 x13_4) from ge240_0)
          clear hv240_0 ge240_0 hcc240 hce240
          have HR240_0 := Aside0.mk hi240_0
          have HC240_0 := Aside0.mk hl240_0
          clear hi240_0 hl240_0
          replace p240 := eq_true p240
          replace q240 := eq_true q240
          obtain ⟨Ao48, co48, eo48⟩ := Kd.S_slice HO_12.out
          subst eo48
          have p241 : 0 ≤ ((ji42) : Int) := of_decide_eq_true aq2
          have q241 : (ji42) < (t237.length : Int) := of_decide_eq_true aq2
          obtain ⟨ad241, A241_0, c241_0, e241, hx241_0, hl241_0, hi241_0⟩ := at_L5 (Kd.S_reads' HO_12.out).2.2 (ji42) p241 q241
          cases e241
          obtain ⟨ce241, hce241, hMe241, hcc241⟩ := Kd.S_get HO_12.out [] (ji42) p241 (by first | exact q241 | exact of_decide_eq_true aq2 | (have e_ := (Kd.S_reads' HO_12.out).1; omega))
          obtain ⟨ve241_0, rfl, ge241_0⟩ := hMe241
          have hv241_0 := hcc241 0 _ rfl
          rw [Nat.add_zero, show ((Kd.slice 3 (Kd.int .i64))).sz = 1 from rfl, Nat.mul_one] at hv241_0
          replace hv241_0 := Option.some.inj (hv241_0.symm.trans hx241_0)
          rw [hv241_0] at ge241_0
          have HL241_0 := Aside0.mk (show Kd.R (Kd.int .i64) 3 _ _ _ _ (rd_L5 t237 (ji42)) from ge241_0)
          clear hv241_0 ge241_0 hcc241 hce241
          have HR241_0 := Aside0.mk hi241_0
          have HC241_0 := Aside0.mk hl241_0
          clear hi241_0 hl241_0
          replace p241 := eq_true p241
          replace q241 := eq_true q241
          go_wp2_with (first | (go_at_call 23; (with_reducible refine (palingref14_Ints.calls k4 _ _ (rd_L5 t234 x13_4) _ _ (rd_L5 t237 (ji42)) true _ ?side1 ?side2 ?side3 ?side4 A45.out).mono ?_); (case side1 => repeat (first | exact aq22 | (with_reducible refine Kd.C_alloc ?_ _) | (with_reducible refine Kd.C_drewN ?_ _) | (with_reducible refine Kd.C_drew ?_))); (case side2 => exact HC240_0.out); (case side3 => repeat (first | exact aq23 | (with_reducible refine Kd.C_alloc ?_ _) | (with_reducible refine Kd.C_drewN ?_ _) | (with_reducible refine Kd.C_drew ?_))); (case side4 => exact HC241_0.out); rintro e w' ⟨rfl, ⟨nd, rfl⟩⟩; (try first | exact ⟨rfl, _, World.drewN_drewN _ _ _⟩ | exact ⟨rfl, _, Eq.trans (World.drewN_drewN _ _ _) (congrArg (World.drewN _) (Nat.add_assoc _ _ _))⟩)))
          repeat (go_quiet (first | (go_at_call 23; (with_reducible refine (palingref14_Ints.calls k4 _ _ (rd_L5 t234 x13_4) _ _ (rd_L5 t237 (ji42)) true _ ?side1 ?side2 ?side3 ?side4 A45.out).mono ?_); (case side1 => repeat (first | exact aq22 | (with_reducible refine Kd.C_alloc ?_ _) | (with_reducible refine Kd.C_drewN ?_ _) | (with_reducible refine Kd.C_drew ?_))); (case side2 => exact HC240_0.out); (case side3 => repeat (first | exact aq23 | (with_reducible refine Kd.C_alloc ?_ _) | (with_reducible refine Kd.C_drewN ?_ _) | (with_reducible refine Kd.C_drew ?_))); (case side4 => exact HC241_0.out); rintro e w' ⟨rfl, ⟨nd, rfl⟩⟩; (try first | exact ⟨rfl, _, World.drewN_drewN _ _ _⟩ | exact ⟨rfl, _, Eq.trans (World.drewN_drewN _ _ _) (congrArg (World.drewN _) (Nat.add_assoc _ _ _))⟩))); try go_wp2_with (first | (go_at_call 23; (with_reducible refine (palingref14_Ints.calls k4 _ _ (rd_L5 t234 x13_4) _ _ (rd_L5 t237 (ji42)) true _ ?side1 ?side2 ?side3 ?side4 A45.out).mono ?_); (case side1 => repeat (first | exact aq22 | (with_reducible refine Kd.C_alloc ?_ _) | (with_reducible refine Kd.C_drewN ?_ _) | (with_reducible refine Kd.C_drew ?_))); (case side2 => exact HC240_0.out); (case side3 => repeat (first | exact aq23 | (with_reducible refine Kd.C_alloc ?_ _) | (with_reducible refine Kd.C_drewN ?_ _) | (with_reducible refine Kd.C_drew ?_))); (case side4 => exact HC241_0.out); rintro e w' ⟨rfl, ⟨nd, rfl⟩⟩; (try first | exact ⟨rfl, _, World.drewN_drewN _ _ _⟩ | exact ⟨rfl, _, Eq.trans (World.drewN_drewN _ _ _) (congrArg (World.drewN _) (Nat.add_assoc _ _ _))⟩))))
          go_roundg k4
          case measure => have := HJ4.out; have := HK2.out; have := HK3.out; have := HK4.out; omega
          case rel => exact ⟨(wrap64 (x13_4 + 1)), aq6, H', ⟨by have := HJ4.out; have := HK2.out; have := HK3.out; have := HK4.out; omega⟩, ⟨by (with_reducible repeat (first | apply Kd.S_alloc | apply Kd.S_drewN | apply Kd.S_drew)); exact HO_11.out⟩, ⟨by (with_reducible repeat (first | apply Kd.S_alloc | apply Kd.S_drewN | apply Kd.S_drew)); exact HO_12.out⟩, ⟨aq0⟩⟩
       rw [if_pos c18] at H
       have c18b0 : decide (x9_3 < (l0.length : Int)) = true := decide_eq_true c18
       clear c18
       by_cases c19 : 0 ≤ x9_3
       rotate_left
       ·rw [if_neg c19] at H
        exact absurd H (by simp)
       rw [if_pos c19] at H
       have c19b0 : decide (0 ≤ x9_3) = true := decide_eq_true c19
       clear c19
       have HC20 := Aside0.mk H
       clear H
       have p226 : 0 ≤ (x9_3 : Int) := of_decide_eq_true aq2
       have q226 : x9_3 < (l0.length : Int) := of_decide_eq_true aq2
       obtain ⟨ad226, e226, hx226_0, hx226_1, hx226_2, hx226_3, hx226_4, hx226_5, hx226_6⟩ := at_T39 HR0.out x9_3 p226 q226
       cases e226
       replace hx226_0 := (HB.out.cell (World.block_lt_of_cell? w _ hx226_0)).trans hx226_0
       replace hx226_1 := (HB.out.cell (World.block_lt_of_cell? w _ hx226_1)).trans hx226_1
       replace hx226_2 := (HB.out.cell (World.block_lt_of_cell? w _ hx226_2)).trans hx226_2
       replace hx226_3 := (HB.out.cell (World.block_lt_of_cell? w _ hx226_3)).trans hx226_3
       replace hx226_4 := (HB.out.cell (World.block_lt_of_cell? w _ hx226_4)).trans hx226_4
       replace hx226_5 := (HB.out.cell (World.block_lt_of_cell? w _ hx226_5)).trans hx226_5
       replace hx226_6 := (HB.out.cell (World.block_lt_of_cell? w _ hx226_6)).trans hx226_6
       replace p226 := eq_true p226
       replace q226 := eq_true q226
       go_upto_region 18 with (first | ((with_reducible refine gate_dst (N := 10) rfl ?_); (try (refine gate_guard (by rfl) ?_; dsimp only)); refine box_event ?hg (N := 10) ?hd (cs := #[.int .i64 0, .int .i64 0, .int .i64 0, .int .i64 0, .int .i64 0, .int .i64 0, .int .i64 0]) (t := 39) ?hr ?_; (case hd => rfl); (case hg => rfl); (case hr => first | (go_simp; done) | (go_simp; rfl)); intro gb0 hg w21 hbox hb; replace HO_6 := Aside0.mk (Kd.R_below (Kd.R_elderB aq12 gb0 (Nat.le_of_eq hg.symm)) hb); have BK0 := Aside0.mk (hbox); have GW0 := Aside0.mk ((by rw [hg]; exact (below_size aq0) : w.heap.size ≤ gb0)); have GE0 := Aside0.mk ((by rw [hg]; exact (below_size aq0) : w.heap.size ≤ gb0)); replace HB := Aside0.mk (below_step aq0 hb); clear hb hbox hg; obtain ⟨hcz22_0, hcz22_1, hcz22_2, hcz22_3, hcz22_4, hcz22_5, hcz22_6, hfz22_0, hfz22_1, hfz22_2, hfz22_3, hfz22_4, hfz22_5, hfz22_6⟩ := czf7 BK0.out))
       repeat (go_quiet (first | ((with_reducible refine gate_dst (N := 10) rfl ?_); (try (refine gate_guard (by rfl) ?_; dsimp only)); refine box_event ?hg (N := 10) ?hd (cs := #[.int .i64 0, .int .i64 0, .int .i64 0, .int .i64 0, .int .i64 0, .int .i64 0, .int .i64 0]) (t := 39) ?hr ?_; (case hd => rfl); (case hg => rfl); (case hr => first | (go_simp; done) | (go_simp; rfl)); intro gb0 hg w21 hbox hb; replace HO_6 := Aside0.mk (Kd.R_below (Kd.R_elderB aq12 gb0 (Nat.le_of_eq hg.symm)) hb); have BK0 := Aside0.mk (hbox); have GW0 := Aside0.mk ((by rw [hg]; exact (below_size aq0) : w.heap.size ≤ gb0)); have GE0 := Aside0.mk ((by rw [hg]; exact (below_size aq0) : w.heap.size ≤ gb0)); replace HB := Aside0.mk (below_step aq0 hb); clear hb hbox hg; obtain ⟨hcz22_0, hcz22_1, hcz22_2, hcz22_3, hcz22_4, hcz22_5, hcz22_6, hfz22_0, hfz22_1, hfz22_2, hfz22_3, hfz22_4, hfz22_5, hfz22_6⟩ := czf7 BK0.out)); go_upto_region 18 with (first | ((with_reducible refine gate_dst (N := 10) rfl ?_); (try (refine gate_guard (by rfl) ?_; dsimp only)); refine box_event ?hg (N := 10) ?hd (cs := #[.int .i64 0, .int .i64 0, .int .i64 0, .int .i64 0, .int .i64 0, .int .i64 0, .int .i64 0]) (t := 39) ?hr ?_; (case hd => rfl); (case hg => rfl); (case hr => first | (go_simp; done) | (go_simp; rfl)); intro gb0 hg w21 hbox hb; replace HO_6 := Aside0.mk (Kd.R_below (Kd.R_elderB aq12 gb0 (Nat.le_of_eq hg.symm)) hb); have BK0 := Aside0.mk (hbox); have GW0 := Aside0.mk ((by rw [hg]; exact (below_size aq0) : w.heap.size ≤ gb0)); have GE0 := Aside0.mk ((by rw [hg]; exact (below_size aq0) : w.heap.size ≤ gb0)); replace HB := Aside0.mk (below_step aq0 hb); clear hb hbox hg; obtain ⟨hcz22_0, hcz22_1, hcz22_2, hcz22_3, hcz22_4, hcz22_5, hcz22_6, hfz22_0, hfz22_1, hfz22_2, hfz22_3, hfz22_4, hfz22_5, hfz22_6⟩ := czf7 BK0.out)))
       (try simp only [Act.put, List.setIfInBounds_toArray, List.set_cons_zero, List.set_cons_succ])
       go_cut [62] (fun v62 wc => ∃ (kq : Nat) (x62_19 : Bool), v62 = .bool x62_19 ∧ Aside0 (palinglaw15_LiveBegins.j3 kq l0 x6_3 (x6_2.length : Int) x9_3 x62_19 ((rd_T39 l0 x9_3).f0) ((rd_T39 l0 x9_3).f1) ((rd_T39 l0 x9_3).f2) ((rd_T39 l0 x9_3).f3) ((rd_T39 l0 x9_3).f4) ((rd_T39 l0 x9_3).f5) ((rd_T39 l0 x9_3).f6) = some r) ∧ Aside0 (kq ≤ k3) ∧ Aside0 (Kd.R k39 39 wc w.heap.size (fun k_ => k_ ≠ gb0) u6 x6_3) ∧ Aside0 (wc.heap[gb0]? = some (.cells #[.int .i64 ((rd_T39 l0 x9_3).f0), .int .i64 ((rd_T39 l0 x9_3).f1), .int .i64 ((rd_T39 l0 x9_3).f2), .int .i64 ((rd_T39 l0 x9_3).f3), .int .i64 ((rd_T39 l0 x9_3).f4), .int .i64 ((rd_T39 l0 x9_3).f5), .int .i64 ((rd_T39 l0 x9_3).f6)] 39 (0, 0))) ∧ Aside0 (Below w.heap.size w wc))
       case first =>
        have H := HC20.out
        clear HC20
        by_cases c23 : ((rd_T39 l0 x9_3).f6) < (-1000)
        ·rw [if_pos c23] at H
         have c23b0 : decide (((rd_T39 l0 x9_3).f6) < (-1000)) = true := decide_eq_true c23
         clear c23
         (first | rw [c23b0] | (simp only [i64_w, i32_w]; rw [c23b0]) | skip)
         have H' := Aside0.mk H
         clear H
         obtain ⟨hcz24_0, hcz24_1, hcz24_2, hcz24_3, hcz24_4, hcz24_5, hcz24_6, hfz24_0, hfz24_1, hfz24_2, hfz24_3, hfz24_4, hfz24_5, hfz24_6⟩ := czf7 BK0.out
         go_wp2
         repeat (go_quiet (fail); try go_wp2)
         go_meet
         case rel => exact ⟨_, (true), aq6, H', ⟨by have := HJ4.out; have := HK2.out; have := HK3.out; first | omega | exact Nat.le_refl _⟩, ⟨by (with_reducible repeat (first | apply Kd.R_alloc | apply Kd.R_drewN | apply Kd.R_drew)); exact Kd.R_mono (Kd.R_far (p := ⟨gb0, 6, none⟩) (Kd.R_far (p := ⟨gb0, 5, none⟩) (Kd.R_far (p := ⟨gb0, 4, none⟩) (Kd.R_far (p := ⟨gb0, 3, none⟩) (Kd.R_far (p := ⟨gb0, 2, none⟩) (Kd.R_far (p := ⟨gb0, 1, none⟩) (Kd.R_far (p := ⟨gb0, 0, none⟩) (Kd.R_mono HO_6.out (fun k_ hk => (⟨hk, hk.2⟩ : _ ∧ k_ ≠ gb0))) (fun _ hk => hk.2) (.int .i64 ((rd_T39 l0 x9_3).f0))) (fun _ hk => hk.2) (.int .i64 ((rd_T39 l0 x9_3).f1))) (fun _ hk => hk.2) (.int .i64 ((rd_T39 l0 x9_3).f2))) (fun _ hk => hk.2) (.int .i64 ((rd_T39 l0 x9_3).f3))) (fun _ hk => hk.2) (.int .i64 ((rd_T39 l0 x9_3).f4))) (fun _ hk => hk.2) (.int .i64 ((rd_T39 l0 x9_3).f5))) (fun _ hk => hk.2) (.int .i64 ((rd_T39 l0 x9_3).f6))) (fun _ hk => hk.1.2)⟩, ⟨by (with_reducible repeat (first | refine blk_drewN ?_ _ | refine blk_drew ?_ | refine blk_alloc ?_ _)); refine blk_put (cs := #[.int .i64 ((rd_T39 l0 x9_3).f0), .int .i64 ((rd_T39 l0 x9_3).f1), .int .i64 ((rd_T39 l0 x9_3).f2), .int .i64 ((rd_T39 l0 x9_3).f3), .int .i64 ((rd_T39 l0 x9_3).f4), .int .i64 ((rd_T39 l0 x9_3).f5), .int .i64 0]) ?_ 6 _ rfl; (with_reducible repeat (first | refine blk_drewN ?_ _ | refine blk_drew ?_ | refine blk_alloc ?_ _)); refine blk_put (cs := #[.int .i64 ((rd_T39 l0 x9_3).f0), .int .i64 ((rd_T39 l0 x9_3).f1), .int .i64 ((rd_T39 l0 x9_3).f2), .int .i64 ((rd_T39 l0 x9_3).f3), .int .i64 ((rd_T39 l0 x9_3).f4), .int .i64 0, .int .i64 0]) ?_ 5 _ rfl; (with_reducible repeat (first | refine blk_drewN ?_ _ | refine blk_drew ?_ | refine blk_alloc ?_ _)); refine blk_put (cs := #[.int .i64 ((rd_T39 l0 x9_3).f0), .int .i64 ((rd_T39 l0 x9_3).f1), .int .i64 ((rd_T39 l0 x9_3).f2), .int .i64 ((rd_T39 l0 x9_3).f3), .int .i64 0, .int .i64 0, .int .i64 0]) ?_ 4 _ rfl; (with_reducible repeat (first | refine blk_drewN ?_ _ | refine blk_drew ?_ | refine blk_alloc ?_ _)); refine blk_put (cs := #[.int .i64 ((rd_T39 l0 x9_3).f0), .int .i64 ((rd_T39 l0 x9_3).f1), .int .i64 ((rd_T39 l0 x9_3).f2), .int .i64 0, .int .i64 0, .int .i64 0, .int .i64 0]) ?_ 3 _ rfl; (with_reducible repeat (first | refine blk_drewN ?_ _ | refine blk_drew ?_ | refine blk_alloc ?_ _)); refine blk_put (cs := #[.int .i64 ((rd_T39 l0 x9_3).f0), .int .i64 ((rd_T39 l0 x9_3).f1), .int .i64 0, .int .i64 0, .int .i64 0, .int .i64 0, .int .i64 0]) ?_ 2 _ rfl; (with_reducible repeat (first | refine blk_drewN ?_ _ | refine blk_drew ?_ | refine blk_alloc ?_ _)); refine blk_put (cs := #[.int .i64 ((rd_T39 l0 x9_3).f0), .int .i64 0, .int .i64 0, .int .i64 0, .int .i64 0, .int .i64 0, .int .i64 0]) ?_ 1 _ rfl; (with_reducible repeat (first | refine blk_drewN ?_ _ | refine blk_drew ?_ | refine blk_alloc ?_ _)); refine blk_put (cs := #[.int .i64 0, .int .i64 0, .int .i64 0, .int .i64 0, .int .i64 0, .int .i64 0, .int .i64 0]) ?_ 0 _ rfl; (with_reducible repeat (first | refine blk_drewN ?_ _ | refine blk_drew ?_ | refine blk_alloc ?_ _)); exact BK0.out⟩, ⟨aq4⟩⟩
        rw [if_neg c23] at H
        have c23b0 : decide (((rd_T39 l0 x9_3).f6) < (-1000)) = false := decide_eq_false c23
        clear c23
        (first | rw [c23b0] | (simp only [i64_w, i32_w]; rw [c23b0]) | skip)
        have H' := Aside0.mk H
        clear H
        obtain ⟨hcz25_0, hcz25_1, hcz25_2, hcz25_3, hcz25_4, hcz25_5, hcz25_6, hfz25_0, hfz25_1, hfz25_2, hfz25_3, hfz25_4, hfz25_5, hfz25_6⟩ := czf7 BK0.out
        go_wp2
        repeat (go_quiet (fail); try go_wp2)
        go_meet
        case rel => exact ⟨_, (decide (((rd_T39 l0 x9_3).f6) > 1000)), aq6, H', ⟨by have := HJ4.out; have := HK2.out; have := HK3.out; first | omega | exact Nat.le_refl _⟩, ⟨by (with_reducible repeat (first | apply Kd.R_alloc | apply Kd.R_drewN | apply Kd.R_drew)); exact Kd.R_mono (Kd.R_far (p := ⟨gb0, 6, none⟩) (Kd.R_far (p := ⟨gb0, 5, none⟩) (Kd.R_far (p := ⟨gb0, 4, none⟩) (Kd.R_far (p := ⟨gb0, 3, none⟩) (Kd.R_far (p := ⟨gb0, 2, none⟩) (Kd.R_far (p := ⟨gb0, 1, none⟩) (Kd.R_far (p := ⟨gb0, 0, none⟩) (Kd.R_mono HO_6.out (fun k_ hk => (⟨hk, hk.2⟩ : _ ∧ k_ ≠ gb0))) (fun _ hk => hk.2) (.int .i64 ((rd_T39 l0 x9_3).f0))) (fun _ hk => hk.2) (.int .i64 ((rd_T39 l0 x9_3).f1))) (fun _ hk => hk.2) (.int .i64 ((rd_T39 l0 x9_3).f2))) (fun _ hk => hk.2) (.int .i64 ((rd_T39 l0 x9_3).f3))) (fun _ hk => hk.2) (.int .i64 ((rd_T39 l0 x9_3).f4))) (fun _ hk => hk.2) (.int .i64 ((rd_T39 l0 x9_3).f5))) (fun _ hk => hk.2) (.int .i64 ((rd_T39 l0 x9_3).f6))) (fun _ hk => hk.1.2)⟩, ⟨by (with_reducible repeat (first | refine blk_drewN ?_ _ | refine blk_drew ?_ | refine blk_alloc ?_ _)); refine blk_put (cs := #[.int .i64 ((rd_T39 l0 x9_3).f0), .int .i64 ((rd_T39 l0 x9_3).f1), .int .i64 ((rd_T39 l0 x9_3).f2), .int .i64 ((rd_T39 l0 x9_3).f3), .int .i64 ((rd_T39 l0 x9_3).f4), .int .i64 ((rd_T39 l0 x9_3).f5), .int .i64 0]) ?_ 6 _ rfl; (with_reducible repeat (first | refine blk_drewN ?_ _ | refine blk_drew ?_ | refine blk_alloc ?_ _)); refine blk_put (cs := #[.int .i64 ((rd_T39 l0 x9_3).f0), .int .i64 ((rd_T39 l0 x9_3).f1), .int .i64 ((rd_T39 l0 x9_3).f2), .int .i64 ((rd_T39 l0 x9_3).f3), .int .i64 ((rd_T39 l0 x9_3).f4), .int .i64 0, .int .i64 0]) ?_ 5 _ rfl; (with_reducible repeat (first | refine blk_drewN ?_ _ | refine blk_drew ?_ | refine blk_alloc ?_ _)); refine blk_put (cs := #[.int .i64 ((rd_T39 l0 x9_3).f0), .int .i64 ((rd_T39 l0 x9_3).f1), .int .i64 ((rd_T39 l0 x9_3).f2), .int .i64 ((rd_T39 l0 x9_3).f3), .int .i64 0, .int .i64 0, .int .i64 0]) ?_ 4 _ rfl; (with_reducible repeat (first | refine blk_drewN ?_ _ | refine blk_drew ?_ | refine blk_alloc ?_ _)); refine blk_put (cs := #[.int .i64 ((rd_T39 l0 x9_3).f0), .int .i64 ((rd_T39 l0 x9_3).f1), .int .i64 ((rd_T39 l0 x9_3).f2), .int .i64 0, .int .i64 0, .int .i64 0, .int .i64 0]) ?_ 3 _ rfl; (with_reducible repeat (first | refine blk_drewN ?_ _ | refine blk_drew ?_ | refine blk_alloc ?_ _)); refine blk_put (cs := #[.int .i64 ((rd_T39 l0 x9_3).f0), .int .i64 ((rd_T39 l0 x9_3).f1), .int .i64 0, .int .i64 0, .int .i64 0, .int .i64 0, .int .i64 0]) ?_ 2 _ rfl; (with_reducible repeat (first | refine blk_drewN ?_ _ | refine blk_drew ?_ | refine blk_alloc ?_ _)); refine blk_put (cs := #[.int .i64 ((rd_T39 l0 x9_3).f0), .int .i64 0, .int .i64 0, .int .i64 0, .int .i64 0, .int .i64 0, .int .i64 0]) ?_ 1 _ rfl; (with_reducible repeat (first | refine blk_drewN ?_ _ | refine blk_drew ?_ | refine blk_alloc ?_ _)); refine blk_put (cs := #[.int .i64 0, .int .i64 0, .int .i64 0, .int .i64 0, .int .i64 0, .int .i64 0, .int .i64 0]) ?_ 0 _ rfl; (with_reducible repeat (first | refine blk_drewN ?_ _ | refine blk_drew ?_ | refine blk_alloc ?_ _)); exact BK0.out⟩, ⟨aq4⟩⟩
       case rest =>
        clear HC20
        obtain ⟨kq, x62_19, rfl, HA, HJ19, HO_6, BK0, HB⟩ := hcut
        cases kq with
        | zero => exact absurd HA.out (by simp [palinglaw15_LiveBegins.j3])
        | succ kj19 =>
         have H := HA.out
         clear HA
         simp only [palinglaw15_LiveBegins.j3] at H
         by_cases c26 : x62_19 = true
         ·subst c26
          rw [if_pos rfl] at H
          obtain rfl := Option.some.inj H
          go_wp2
          repeat (go_quiet (fail); try go_wp2)
          go_ret
          exact ⟨aq11, aq4⟩
         replace c26 := Bool.eq_false_iff.mpr c26
         subst c26
         rw [if_neg nf_] at H
         by_cases c27 : ((rd_T39 l0 x9_3).f6) < 0
         ·rw [if_pos c27] at H
          have c27b0 : decide (((rd_T39 l0 x9_3).f6) < 0) = true := decide_eq_true c27
          clear c27
          by_cases c28 : x6_3.length < 2513169434916
          rotate_left
          ·rw [if_neg c28] at H
           exact absurd H (by simp)
          rw [if_pos c28] at H
          have LMc28 := Aside0.mk c28
          clear c28
          obtain ⟨y228, hy_⟩ : ∃ y_ : List (S39), y_ = (x6_3 ++ [(⟨((rd_T39 l0 x9_3).f0), ((rd_T39 l0 x9_3).f1), ((rd_T39 l0 x9_3).f2), ((rd_T39 l0 x9_3).f3), ((rd_T39 l0 x9_3).f4), ((rd_T39 l0 x9_3).f5), (-1)⟩ : S39)]) := ⟨_, rfl⟩
          replace H : (palinglaw15_LiveBegins.l1 kj19 l0 y228 (x6_2.length : Int) (wrap64 (x9_3 + 1))) = some r := aq1
          have Ny228 := Aside0.mk hy_
          clear hy_
          have H' := Aside0.mk H
          clear H
          obtain ⟨hcz29_0, hcz29_1, hcz29_2, hcz29_3, hcz29_4, hcz29_5, hcz29_6, hfz29_0, hfz29_1, hfz29_2, hfz29_3, hfz29_4, hfz29_5, hfz29_6⟩ := czf7 BK0.out
          go_wp2_with (first | ((with_reducible refine gate_builtin (b := .append) (xs := #[.tmp 72, .tmp 74]) rfl ?_); (try (refine gate_guard (by rfl) ?_; dsimp only)); at_builtin; refine Kd.R_append k39 (w0 := w) w.heap.size rfl (.tmp 72) (.tmp 74) 44 39 (.agg #[(.int .i64 0), (.int .i64 0), (.int .i64 0), (.int .i64 0), (.int .i64 0), (.int .i64 0), (.int .i64 0)]) 56 rfl Tryd.underlying44 info39 rfl (by decide) (by omega) u6 x6_3 (⟨((rd_T39 l0 x9_3).f0), ((rd_T39 l0 x9_3).f1), ((rd_T39 l0 x9_3).f2), ((rd_T39 l0 x9_3).f3), ((rd_T39 l0 x9_3).f4), ((rd_T39 l0 x9_3).f5), (-1)⟩ : S39) [.int .i64 ((rd_T39 l0 x9_3).f0), .int .i64 ((rd_T39 l0 x9_3).f1), .int .i64 ((rd_T39 l0 x9_3).f2), .int .i64 ((rd_T39 l0 x9_3).f3), .int .i64 ((rd_T39 l0 x9_3).f4), .int .i64 ((rd_T39 l0 x9_3).f5), .int .i64 (-1)] (fun k_ => k_ ≠ gb0) (fun _ => False) rfl (by first | (go_simp; done) | (go_simp; rfl)) ?aP (fun _ hk => hk.elim) ?aF ?aO ?aB ?aS ?aL ?_; (case aP => exact k39_mkM _ _ _ (⟨((rd_T39 l0 x9_3).f0), ((rd_T39 l0 x9_3).f1), ((rd_T39 l0 x9_3).f2), ((rd_T39 l0 x9_3).f3), ((rd_T39 l0 x9_3).f4), ((rd_T39 l0 x9_3).f5), (-1)⟩ : S39)); (case aB => exact aq4); (case aF => exact (fun k_ hk => Kd.freshB (g := gb0) (o := .cells #[.int .i64 ((rd_T39 l0 x9_3).f0), .int .i64 ((rd_T39 l0 x9_3).f1), .int .i64 ((rd_T39 l0 x9_3).f2), .int .i64 ((rd_T39 l0 x9_3).f3), .int .i64 ((rd_T39 l0 x9_3).f4), .int .i64 ((rd_T39 l0 x9_3).f5), .int .i64 (-1)] 39 (0, 0)) aq8 k_ hk)); (case aO => exact (by (with_reducible repeat (first | apply Kd.R_alloc | apply Kd.R_drewN | apply Kd.R_drew)); exact Kd.R_mono (Kd.R_far (p := ⟨gb0, 6, none⟩) (Kd.R_mono HO_6.out (fun k_ hk => (⟨hk, hk⟩ : _ ∧ k_ ≠ gb0))) (fun _ hk => hk.2) (.int .i64 (-1))) (fun _ hk => hk.1))); (case aS => exact (below_size aq4)); (case aL => have := LMc28.out; omega); intro v229 w30 ho hb hg hat; rw [← Ny228.out] at ho; replace BK0 := Aside0.mk (blk_grown (g := gb0) (o := .cells #[.int .i64 ((rd_T39 l0 x9_3).f0), .int .i64 ((rd_T39 l0 x9_3).f1), .int .i64 ((rd_T39 l0 x9_3).f2), .int .i64 ((rd_T39 l0 x9_3).f3), .int .i64 ((rd_T39 l0 x9_3).f4), .int .i64 ((rd_T39 l0 x9_3).f5), .int .i64 (-1)] 39 (0, 0)) aq8 hg (Kd.R_away HO_6.out (fun _ hk => hk))); replace HB := Aside0.mk (hb); have HO230 := Aside0.mk (ho); clear HO_6; clear ho hb hg hat) | (go_quiet (fail)))
          go_roundg kj19
          case measure => have := HJ4.out; have := HK2.out; have := HK3.out; have := HJ19.out; omega
          case rel => exact ⟨(y228), (wrap64 (x9_3 + 1)), aq6, H', ⟨by have := HJ4.out; have := HK2.out; have := HK3.out; have := HJ19.out; omega⟩, ⟨by (with_reducible repeat (first | apply Kd.R_alloc | apply Kd.R_drewN | apply Kd.R_drew)); exact Kd.R_mono HO230.out (fun _ hk => trivial)⟩, ⟨aq4⟩⟩
         rw [if_neg c27] at H
         have c27b0 : decide (((rd_T39 l0 x9_3).f6) < 0) = false := decide_eq_false c27
         clear c27
         by_cases c31 : x6_3.length < 2513169434916
         rotate_left
         ·rw [if_neg c31] at H
          exact absurd H (by simp)
         rw [if_pos c31] at H
         have LMc31 := Aside0.mk c31
         clear c31
         obtain ⟨y231, hy_⟩ : ∃ y_ : List (S39), y_ = (x6_3 ++ [(⟨((rd_T39 l0 x9_3).f0), ((rd_T39 l0 x9_3).f1), ((rd_T39 l0 x9_3).f2), ((rd_T39 l0 x9_3).f3), ((rd_T39 l0 x9_3).f4), ((rd_T39 l0 x9_3).f5), wrap64 (((rd_T39 l0 x9_3).f6) + (x6_2.length : Int))⟩ : S39)]) := ⟨_, rfl⟩
         replace H : (palinglaw15_LiveBegins.l1 kj19 l0 y231 (x6_2.length : Int) (wrap64 (x9_3 + 1))) = some r := aq1
         have Ny231 := Aside0.mk hy_
         clear hy_
         have H' := Aside0.mk H
         clear H
         obtain ⟨hcz32_0, hcz32_1, hcz32_2, hcz32_3, hcz32_4, hcz32_5, hcz32_6, hfz32_0, hfz32_1, hfz32_2, hfz32_3, hfz32_4, hfz32_5, hfz32_6⟩ := czf7 BK0.out
         go_wp2_with (first | ((with_reducible refine gate_builtin (b := .append) (xs := #[.tmp 72, .tmp 74]) rfl ?_); (try (refine gate_guard (by rfl) ?_; dsimp only)); at_builtin; refine Kd.R_append k39 (w0 := w) w.heap.size rfl (.tmp 72) (.tmp 74) 44 39 (.agg #[(.int .i64 0), (.int .i64 0), (.int .i64 0), (.int .i64 0), (.int .i64 0), (.int .i64 0), (.int .i64 0)]) 56 rfl Tryd.underlying44 info39 rfl (by decide) (by omega) u6 x6_3 (⟨((rd_T39 l0 x9_3).f0), ((rd_T39 l0 x9_3).f1), ((rd_T39 l0 x9_3).f2), ((rd_T39 l0 x9_3).f3), ((rd_T39 l0 x9_3).f4), ((rd_T39 l0 x9_3).f5), wrap64 (((rd_T39 l0 x9_3).f6) + (x6_2.length : Int))⟩ : S39) [.int .i64 ((rd_T39 l0 x9_3).f0), .int .i64 ((rd_T39 l0 x9_3).f1), .int .i64 ((rd_T39 l0 x9_3).f2), .int .i64 ((rd_T39 l0 x9_3).f3), .int .i64 ((rd_T39 l0 x9_3).f4), .int .i64 ((rd_T39 l0 x9_3).f5), .int .i64 (wrap64 (((rd_T39 l0 x9_3).f6) + (x6_2.length : Int)))] (fun k_ => k_ ≠ gb0) (fun _ => False) rfl (by first | (go_simp; done) | (go_simp; rfl)) ?aP (fun _ hk => hk.elim) ?aF ?aO ?aB ?aS ?aL ?_; (case aP => exact k39_mkM _ _ _ (⟨((rd_T39 l0 x9_3).f0), ((rd_T39 l0 x9_3).f1), ((rd_T39 l0 x9_3).f2), ((rd_T39 l0 x9_3).f3), ((rd_T39 l0 x9_3).f4), ((rd_T39 l0 x9_3).f5), wrap64 (((rd_T39 l0 x9_3).f6) + (x6_2.length : Int))⟩ : S39)); (case aB => exact aq4); (case aF => exact (fun k_ hk => Kd.freshB (g := gb0) (o := .cells #[.int .i64 ((rd_T39 l0 x9_3).f0), .int .i64 ((rd_T39 l0 x9_3).f1), .int .i64 ((rd_T39 l0 x9_3).f2), .int .i64 ((rd_T39 l0 x9_3).f3), .int .i64 ((rd_T39 l0 x9_3).f4), .int .i64 ((rd_T39 l0 x9_3).f5), .int .i64 (wrap64 (((rd_T39 l0 x9_3).f6) + (x6_2.length : Int)))] 39 (0, 0)) aq8 k_ hk)); (case aO => exact (by (with_reducible repeat (first | apply Kd.R_alloc | apply Kd.R_drewN | apply Kd.R_drew)); exact Kd.R_mono (Kd.R_far (p := ⟨gb0, 6, none⟩) (Kd.R_mono HO_6.out (fun k_ hk => (⟨hk, hk⟩ : _ ∧ k_ ≠ gb0))) (fun _ hk => hk.2) (.int .i64 (wrap64 (((rd_T39 l0 x9_3).f6) + (x6_2.length : Int))))) (fun _ hk => hk.1))); (case aS => exact (below_size aq4)); (case aL => have := LMc31.out; omega); intro v232 w33 ho hb hg hat; rw [← Ny231.out] at ho; replace BK0 := Aside0.mk (blk_grown (g := gb0) (o := .cells #[.int .i64 ((rd_T39 l0 x9_3).f0), .int .i64 ((rd_T39 l0 x9_3).f1), .int .i64 ((rd_T39 l0 x9_3).f2), .int .i64 ((rd_T39 l0 x9_3).f3), .int .i64 ((rd_T39 l0 x9_3).f4), .int .i64 ((rd_T39 l0 x9_3).f5), .int .i64 (wrap64 (((rd_T39 l0 x9_3).f6) + (x6_2.length : Int)))] 39 (0, 0)) aq8 hg (Kd.R_away HO_6.out (fun _ hk => hk))); replace HB := Aside0.mk (hb); have HO233 := Aside0.mk (ho); clear HO_6; clear ho hb hg hat) | (go_quiet (fail)))
         go_roundg kj19
         case measure => have := HJ4.out; have := HK2.out; have := HK3.out; have := HJ19.out; omega
         case rel => exact ⟨(y231), (wrap64 (x9_3 + 1)), aq6, H', ⟨by have := HJ4.out; have := HK2.out; have := HK3.out; have := HJ19.out; omega⟩, ⟨by (with_reducible repeat (first | apply Kd.R_alloc | apply Kd.R_drewN | apply Kd.R_drew)); exact Kd.R_mono HO233.out (fun _ hk => trivial)⟩, ⟨aq4⟩⟩
end Go.Proofs.YtianfjhhhhmjlaaDoor.PLiveBegins
