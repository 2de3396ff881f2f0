-- Written by print2.py over the kit's printer. Not trusted: Lean checks it.
import Derived.Test.YtoncneglplglhaaDoorPGraphStraightx0
import Derived.Test.YtoncneglplglhaaDoorPGraphStraightx2
import Derived.Test.YtoncneglplglhaaDoorPGraphStraightx3
import Derived.Test.YtoncneglplglhaaDoorPGraphStraighthgdepth
import Derived.Test.YtoncneglplglhaaDoorPGraphStraighthgdom
import Derived.Test.YtoncneglplglhaaDoorPGraphStraighthgloops
import Derived.Test.YtoncneglplglhaaDoorPGraphStraighthgreach
namespace Go.Proofs.YtoncneglplglhaaDoor.PGraphStraight
open Go.RowKit Go.Proofs.YtoncneglplglhaaDoorW.PrintWords Go.Proofs.YtoncneglplglhaaDoorW.PrintLast Go.Proofs.YtoncneglplglhaaDoorW.PrintMore
attribute [local go_sem] max2_int min2_int max_two min_two max_three min_three max_four min_four   -- for this text's walks alone
set_option linter.unusedVariables false
set_option linter.unusedSimpArgs false

/-! ### palinglaw14_GraphStraight: function 6 -/
mutual
def palinglaw14_GraphStraight.l0 : Nat → List (S37) → Int → Int → Option (Bool)
  | 0, _, _, _ => none
  | k + 1, x0, x4, x5 => if x5 ≥ 0 then (if 0 ≤ x5 then (if x5 < (x0.length : Int) then (if ((rd_T37 x0 x5).f0) = 6 then (palinglaw14_GraphStraight.j1 k x0 x4 x5 true) else (if ((rd_T37 x0 x5).f0) = 7 then (palinglaw14_GraphStraight.j1 k x0 x4 x5 true) else (if ((rd_T37 x0 x5).f0) < 0 then (palinglaw14_GraphStraight.j1 k x0 x4 x5 true) else (palinglaw14_GraphStraight.j1 k x0 x4 x5 (decide (((rd_T37 x0 x5).f0) > 13)))))) else (none)) else (none)) else ((graph_Reach.f k x0).bind fun t185 => ((graph_Dominates.f k x0).bind fun t188 => ((graph_Depth.f k x0).bind fun t191 => ((graph_Preds.f k x0).bind fun t194 => (palinglaw14_GraphStraight.l1 k x0 x4 t185 t188 t191 t194 0)))))
def palinglaw14_GraphStraight.j1 : Nat → List (S37) → Int → Int → Bool → Option (Bool)
  | 0, _, _, _, _ => none
  | k + 1, x0, x4, x5, x57 => if x57 = true then (some true) else (if 0 ≤ x5 then (if x5 < (x0.length : Int) then (if ((rd_T37 x0 x5).f0) = 13 then (palinglaw14_GraphStraight.l0 k x0 x5 (wrap64 (x5 - 1))) else (if ((rd_T37 x0 x5).f0) = 12 then (palinglaw14_GraphStraight.l0 k x0 x5 (wrap64 (x5 - 1))) else (palinglaw14_GraphStraight.l0 k x0 x4 (wrap64 (x5 - 1))))) else (none)) else (none))
def palinglaw14_GraphStraight.l1 : Nat → List (S37) → Int → List Bool → List (List Bool) → List Int → List (List Int) → Int → Option (Bool)
  | 0, _, _, _, _, _, _, _ => none
  | k + 1, x0, x4, x6, x7, x8, x9, x10 => if x10 < (x0.length : Int) then (if 0 ≤ x10 then (if x10 < (x6.length : Int) then (if ((rdOf false x6 x10) != (decide (x10 ≤ x4))) = true then (palinglaw14_GraphStraight.j3 k x0 x4 x6 x7 x8 x9 x10 true) else (if x10 < (x8.length : Int) then (if (rd x8 x10) = 0 then (if x10 < (x9.length : Int) then (if ((rd_L5 x9 x10).length : Int) > 1 then (palinglaw14_GraphStraight.j3 k x0 x4 x6 x7 x8 x9 x10 true) else (if ((rd_L5 x9 x10).length : Int) = 1 then (if 0 < ((rd_L5 x9 x10).length : Int) then (palinglaw14_GraphStraight.j3 k x0 x4 x6 x7 x8 x9 x10 ((rd (rd_L5 x9 x10) 0) != (wrap64 (x10 - 1)))) else (none)) else (palinglaw14_GraphStraight.j3 k x0 x4 x6 x7 x8 x9 x10 false))) else (none)) else (palinglaw14_GraphStraight.j3 k x0 x4 x6 x7 x8 x9 x10 true)) else (none))) else (none)) else (none)) else ((graph_Loops.f k x0).bind fun t197 => (some ((t197.length : Int) == 0)))
def palinglaw14_GraphStraight.j3 : Nat → List (S37) → Int → List Bool → List (List Bool) → List Int → List (List Int) → Int → Bool → Option (Bool)
  | 0, _, _, _, _, _, _, _, _ => none
  | k + 1, x0, x4, x6, x7, x8, x9, x10, x128 => if x128 = true then (some false) else (palinglaw14_GraphStraight.l2 k x0 x4 x6 x7 x8 x9 x10 0)
def palinglaw14_GraphStraight.l2 : Nat → List (S37) → Int → List Bool → List (List Bool) → List Int → List (List Int) → Int → Int → Option (Bool)
  | 0, _, _, _, _, _, _, _, _ => none
  | k + 1, x0, x4, x6, x7, x8, x9, x10, x11 => if x11 < (x0.length : Int) then (if 0 ≤ x10 then (if x10 < (x7.length : Int) then (if 0 ≤ x11 then (if x11 < ((rd_L7 x7 x10).length : Int) then (if x11 ≤ x10 then (if ((rdOf false (rd_L7 x7 x10) x11) != (decide (x10 ≤ x4))) = true then (some false) else (palinglaw14_GraphStraight.l2 k x0 x4 x6 x7 x8 x9 x10 (wrap64 (x11 + 1)))) else (if ((rdOf false (rd_L7 x7 x10) x11) != false) = true then (some false) else (palinglaw14_GraphStraight.l2 k x0 x4 x6 x7 x8 x9 x10 (wrap64 (x11 + 1))))) else (none)) else (none)) else (none)) else (none)) else (palinglaw14_GraphStraight.l1 k x0 x4 x6 x7 x8 x9 (wrap64 (x10 + 1)))
end
def palinglaw14_GraphStraight.f (k : Nat) (l0 : List (S37)) : Option (Bool) := (palinglaw14_awake.f k).bind fun t178 => (if t178 = true then (if (l0.length : Int) > 40 then (some true) else (palinglaw14_GraphStraight.l0 k l0 (wrap64 ((l0.length : Int) - 1)) (wrap64 ((l0.length : Int) - 1)))) else (some false))
theorem palinglaw14_GraphStraight.mono_l : ∀ k, (∀ y0 y1 y2, LeO (palinglaw14_GraphStraight.l0 k y0 y1 y2) (palinglaw14_GraphStraight.l0 (k + 1) y0 y1 y2)) ∧ (∀ y0 y1 y2 y3, LeO (palinglaw14_GraphStraight.j1 k y0 y1 y2 y3) (palinglaw14_GraphStraight.j1 (k + 1) y0 y1 y2 y3)) ∧ (∀ y0 y1 y2 y3 y4 y5 y6, LeO (palinglaw14_GraphStraight.l1 k y0 y1 y2 y3 y4 y5 y6) (palinglaw14_GraphStraight.l1 (k + 1) y0 y1 y2 y3 y4 y5 y6)) ∧ (∀ y0 y1 y2 y3 y4 y5 y6 y7, LeO (palinglaw14_GraphStraight.j3 k y0 y1 y2 y3 y4 y5 y6 y7) (palinglaw14_GraphStraight.j3 (k + 1) y0 y1 y2 y3 y4 y5 y6 y7)) ∧ (∀ y0 y1 y2 y3 y4 y5 y6 y7, LeO (palinglaw14_GraphStraight.l2 k y0 y1 y2 y3 y4 y5 y6 y7) (palinglaw14_GraphStraight.l2 (k + 1) y0 y1 y2 y3 y4 y5 y6 y7))
  | 0 => ⟨fun _ _ _ r h => by simp [palinglaw14_GraphStraight.l0] at h, fun _ _ _ _ r h => by simp [palinglaw14_GraphStraight.j1] at h, fun _ _ _ _ _ _ _ r h => by simp [palinglaw14_GraphStraight.l1] at h, fun _ _ _ _ _ _ _ _ r h => by simp [palinglaw14_GraphStraight.j3] at h, fun _ _ _ _ _ _ _ _ r h => by simp [palinglaw14_GraphStraight.l2] at h⟩
  | k + 1 => by
    obtain ⟨ih0, ih1, ih2, ih3, ih4⟩ := palinglaw14_GraphStraight.mono_l k
    refine ⟨?_, ?_, ?_, ?_, ?_⟩
    · intro y0 y1 y2
      unfold palinglaw14_GraphStraight.l0
      repeat' first
      | (with_reducible exact ih0 _ _ _)
      | (with_reducible exact ih1 _ _ _ _)
      | (with_reducible exact ih2 _ _ _ _ _ _ _)
      | (with_reducible exact ih3 _ _ _ _ _ _ _ _)
      | (with_reducible exact ih4 _ _ _ _ _ _ _ _)
      | (with_reducible exact graph_Depth.mono _ _)
      | (with_reducible exact graph_Dominates.mono _ _)
      | (with_reducible exact graph_Loops.mono _ _)
      | (with_reducible exact graph_Preds.mono _ _)
      | (with_reducible exact graph_Reach.mono _ _)
      | (with_reducible exact palinglaw14_awake.mono _)
      | (with_reducible exact LeO.refl _)
      | (with_reducible exact LeO.none _)
      | (with_reducible refine LeO.ite ?_ ?_)
      | (with_reducible refine LeO.bind ?_ (fun _ => ?_))
      | exact ih0 _ _ _
      | exact ih1 _ _ _ _
      | exact ih2 _ _ _ _ _ _ _
      | exact ih3 _ _ _ _ _ _ _ _
      | exact ih4 _ _ _ _ _ _ _ _
      | exact graph_Depth.mono _ _
      | exact graph_Dominates.mono _ _
      | exact graph_Loops.mono _ _
      | exact graph_Preds.mono _ _
      | exact graph_Reach.mono _ _
      | exact palinglaw14_awake.mono _
      | exact LeO.none _
      | refine LeO.ite ?_ ?_
      | refine LeO.bind ?_ (fun _ => ?_)
    · intro y0 y1 y2 y3
      unfold palinglaw14_GraphStraight.j1
      repeat' first
      | (with_reducible exact ih0 _ _ _)
      | (with_reducible exact ih1 _ _ _ _)
      | (with_reducible exact ih2 _ _ _ _ _ _ _)
      | (with_reducible exact ih3 _ _ _ _ _ _ _ _)
      | (with_reducible exact ih4 _ _ _ _ _ _ _ _)
      | (with_reducible exact graph_Depth.mono _ _)
      | (with_reducible exact graph_Dominates.mono _ _)
      | (with_reducible exact graph_Loops.mono _ _)
      | (with_reducible exact graph_Preds.mono _ _)
      | (with_reducible exact graph_Reach.mono _ _)
      | (with_reducible exact palinglaw14_awake.mono _)
      | (with_reducible exact LeO.refl _)
      | (with_reducible exact LeO.none _)
      | (with_reducible refine LeO.ite ?_ ?_)
      | (with_reducible refine LeO.bind ?_ (fun _ => ?_))
      | exact ih0 _ _ _
      | exact ih1 _ _ _ _
      | exact ih2 _ _ _ _ _ _ _
      | exact ih3 _ _ _ _ _ _ _ _
      | exact ih4 _ _ _ _ _ _ _ _
      | exact graph_Depth.mono _ _
      | exact graph_Dominates.mono _ _
      | exact graph_Loops.mono _ _
      | exact graph_Preds.mono _ _
      | exact graph_Reach.mono _ _
      | exact palinglaw14_awake.mono _
      | exact LeO.none _
      | refine LeO.ite ?_ ?_
      | refine LeO.bind ?_ (fun _ => ?_)
    · intro y0 y1 y2 y3 y4 y5 y6
      unfold palinglaw14_GraphStraight.l1
      repeat' first
      | (with_reducible exact ih0 _ _ _)
      | (with_reducible exact ih1 _ _ _ _)
      | (with_reducible exact ih2 _ _ _ _ _ _ _)
      | (with_reducible exact ih3 _ _ _ _ _ _ _ _)
      | (with_reducible exact ih4 _ _ _ _ _ _ _ _)
      | (with_reducible exact graph_Depth.mono _ _)
      | (with_reducible exact graph_Dominates.mono _ _)
      | (with_reducible exact graph_Loops.mono _ _)
      | (with_reducible exact graph_Preds.mono _ _)
      | (with_reducible exact graph_Reach.mono _ _)
      | (with_reducible exact palinglaw14_awake.mono _)
      | (with_reducible exact LeO.refl _)
      | (with_reducible exact LeO.none _)
      | (with_reducible refine LeO.ite ?_ ?_)
      | (with_reducible refine LeO.bind ?_ (fun _ => ?_))
      | exact ih0 _ _ _
      | exact ih1 _ _ _ _
      | exact ih2 _ _ _ _ _ _ _
      | exact ih3 _ _ _ _ _ _ _ _
      | exact ih4 _ _ _ _ _ _ _ _
      | exact graph_Depth.mono _ _
      | exact graph_Dominates.mono _ _
      | exact graph_Loops.mono _ _
      | exact graph_Preds.mono _ _
      | exact graph_Reach.mono _ _
      | exact palinglaw14_awake.mono _
      | exact LeO.none _
      | refine LeO.ite ?_ ?_
      | refine LeO.bind ?_ (fun _ => ?_)
    · intro y0 y1 y2 y3 y4 y5 y6 y7
      unfold palinglaw14_GraphStraight.j3
      repeat' first
      | (with_reducible exact ih0 _ _ _)
      | (with_reducible exact ih1 _ _ _ _)
      | (with_reducible exact ih2 _ _ _ _ _ _ _)
      | (with_reducible exact ih3 _ _ _ _ _ _ _ _)
      | (with_reducible exact ih4 _ _ _ _ _ _ _ _)
      | (with_reducible exact graph_Depth.mono _ _)
      | (with_reducible exact graph_Dominates.mono _ _)
      | (with_reducible exact graph_Loops.mono _ _)
      | (with_reducible exact graph_Preds.mono _ _)
      | (with_reducible exact graph_Reach.mono _ _)
      | (with_reducible exact palinglaw14_awake.mono _)
      | (with_reducible exact LeO.refl _)
      | (with_reducible exact LeO.none _)
      | (with_reducible refine LeO.ite ?_ ?_)
      | (with_reducible refine LeO.bind ?_ (fun _ => ?_))
      | exact ih0 _ _ _
      | exact ih1 _ _ _ _
      | exact ih2 _ _ _ _ _ _ _
      | exact ih3 _ _ _ _ _ _ _ _
      | exact ih4 _ _ _ _ _ _ _ _
      | exact graph_Depth.mono _ _
      | exact graph_Dominates.mono _ _
      | exact graph_Loops.mono _ _
      | exact graph_Preds.mono _ _
      | exact graph_Reach.mono _ _
      | exact palinglaw14_awake.mono _
      | exact LeO.none _
      | refine LeO.ite ?_ ?_
      | refine LeO.bind ?_ (fun _ => ?_)
    · intro y0 y1 y2 y3 y4 y5 y6 y7
      unfold palinglaw14_GraphStraight.l2
      repeat' first
      | (with_reducible exact ih0 _ _ _)
      | (with_reducible exact ih1 _ _ _ _)
      | (with_reducible exact ih2 _ _ _ _ _ _ _)
      | (with_reducible exact ih3 _ _ _ _ _ _ _ _)
      | (with_reducible exact ih4 _ _ _ _ _ _ _ _)
      | (with_reducible exact graph_Depth.mono _ _)
      | (with_reducible exact graph_Dominates.mono _ _)
      | (with_reducible exact graph_Loops.mono _ _)
      | (with_reducible exact graph_Preds.mono _ _)
      | (with_reducible exact graph_Reach.mono _ _)
      | (with_reducible exact palinglaw14_awake.mono _)
      | (with_reducible exact LeO.refl _)
      | (with_reducible exact LeO.none _)
      | (with_reducible refine LeO.ite ?_ ?_)
      | (with_reducible refine LeO.bind ?_ (fun _ => ?_))
      | exact ih0 _ _ _
      | exact ih1 _ _ _ _
      | exact ih2 _ _ _ _ _ _ _
      | exact ih3 _ _ _ _ _ _ _ _
      | exact ih4 _ _ _ _ _ _ _ _
      | exact graph_Depth.mono _ _
      | exact graph_Dominates.mono _ _
      | exact graph_Loops.mono _ _
      | exact graph_Preds.mono _ _
      | exact graph_Reach.mono _ _
      | exact palinglaw14_awake.mono _
      | exact LeO.none _
      | refine LeO.ite ?_ ?_
      | refine LeO.bind ?_ (fun _ => ?_)
theorem palinglaw14_GraphStraight.mono : ∀ a0 k, LeO (palinglaw14_GraphStraight.f k a0) (palinglaw14_GraphStraight.f (k + 1) a0) := by
  intro a0 k
  obtain ⟨ih0, ih1, ih2, ih3, ih4⟩ := palinglaw14_GraphStraight.mono_l k
  unfold palinglaw14_GraphStraight.f
  repeat' first
      | (with_reducible exact ih0 _ _ _)
      | (with_reducible exact ih1 _ _ _ _)
      | (with_reducible exact ih2 _ _ _ _ _ _ _)
      | (with_reducible exact ih3 _ _ _ _ _ _ _ _)
      | (with_reducible exact ih4 _ _ _ _ _ _ _ _)
      | (with_reducible exact graph_Depth.mono _ _)
      | (with_reducible exact graph_Dominates.mono _ _)
      | (with_reducible exact graph_Loops.mono _ _)
      | (with_reducible exact graph_Preds.mono _ _)
      | (with_reducible exact graph_Reach.mono _ _)
      | (with_reducible exact palinglaw14_awake.mono _)
      | (with_reducible exact LeO.refl _)
      | (with_reducible exact LeO.none _)
      | (with_reducible refine LeO.ite ?_ ?_)
      | (with_reducible refine LeO.bind ?_ (fun _ => ?_))
      | exact ih0 _ _ _
      | exact ih1 _ _ _ _
      | exact ih2 _ _ _ _ _ _ _
      | exact ih3 _ _ _ _ _ _ _ _
      | exact ih4 _ _ _ _ _ _ _ _
      | exact graph_Depth.mono _ _
      | exact graph_Dominates.mono _ _
      | exact graph_Loops.mono _ _
      | exact graph_Preds.mono _ _
      | exact graph_Reach.mono _ _
      | exact palinglaw14_awake.mono _
      | exact LeO.none _
      | refine LeO.ite ?_ ?_
      | refine LeO.bind ?_ (fun _ => ?_)
set_option maxHeartbeats 8000000 in
set_option maxRecDepth 100000 in
theorem palinglaw14_GraphStraight.calls (k : Nat) (A0 : Option Addr) (c0 : Nat) (l0 : List (S37)) (r : Bool) (w : World) (hr0 : Kd.C k37 w A0 l0.length l0) (hc0 : l0.length ≤ c0) (h : palinglaw14_GraphStraight.f k l0 = some r) (hgl : GlobOK w) :
    Calls Tryd.prog 6 #[.slice A0 l0.length c0] w fun e w' => e = .returned (.bool r) ∧ Below w.heap.size w w' := by
  have HR0 := Aside0.mk hr0
  have HC0 := Aside0.mk hc0
  clear hr0 hc0
  have HB := Aside0.mk (Below.refl w.heap.size w)
  have HGL := Aside0.mk hgl
  clear hgl
  have H : ((palinglaw14_awake.f k).bind fun t178 => (if t178 = true then (if (l0.length : Int) > 40 then (some true) else (palinglaw14_GraphStraight.l0 k l0 (wrap64 ((l0.length : Int) - 1)) (wrap64 ((l0.length : Int) - 1)))) else (some false))) = some r := h
  clear h
  replace H := Option.bind_eq_some_iff.mp H
  obtain ⟨t178, A20, H⟩ := H
  replace H : (if t178 = true then (if (l0.length : Int) > 40 then (some true) else (palinglaw14_GraphStraight.l0 k l0 (wrap64 ((l0.length : Int) - 1)) (wrap64 ((l0.length : Int) - 1)))) else (some false)) = some r := H
  have A2 := Aside0.mk A20
  clear A20
  by_cases c3 : t178 = true
  · subst c3
    have H1 : (if (l0.length : Int) > 40 then (some true) else (palinglaw14_GraphStraight.l0 k l0 (wrap64 ((l0.length : Int) - 1)) (wrap64 ((l0.length : Int) - 1)))) = some r := by rw [if_pos rfl] at H; exact H
    clear H
    have H := H1
    clear H1
    by_cases c4 : (l0.length : Int) > 40
    · rw [if_pos c4] at H
      have c4b0 : decide (40 < (l0.length : Int)) = true := decide_eq_true c4
      have c4b1 : decide (40 < l0.length) = true := decide_eq_true (by omega)
      clear c4
      obtain rfl := Option.some.inj H
      go_enter Tryd.func6, Tryd.ntmps6
      go_wp2_with (first | ((with_reducible refine gate_callee (f := 7) rfl ?_); refine goesL_ (some 12) rfl rfl Tryd.func7 (by kernel_rfl) rfl #[] rfl (by (try simp only [List.map_toArray, List.map_cons, List.map_nil]); first | done | rfl | (simp only [List.length_drop, List.length_take]; rfl)) ?_; (with_reducible refine (palinglaw14_awake.calls k  true _ A2.out (GlobOK.step HGL.out (by repeat (first | (with_reducible first | exact HB.out | apply below_alloc | apply pw_below_drewN | apply below_drew1) | exact HB.out)))).mono ?_); rintro e w5 ⟨rfl, hb⟩; refine ⟨_, rfl, ?_⟩; have n0_ := Aside0.mk (below_step (by repeat (first | (with_reducible first | exact HB.out | apply below_alloc | apply pw_below_drewN | apply below_drew1) | exact HB.out)) hb); clear HB; have HB := n0_; clear n0_; (try clear hb); (try clear hb2); (try clear hk); (try clear hi)))
      go_ret
      exact ⟨by first | rfl | (simp [errW_none, errW_some] <;> rfl) | (simp [*, errW_none, errW_some] <;> rfl), by repeat (first | (with_reducible first | exact HB.out | apply below_alloc | apply pw_below_drewN | apply below_drew1) | exact HB.out)⟩
    · rw [if_neg c4] at H
      have c4b0 : decide (40 < (l0.length : Int)) = false := decide_eq_false c4
      have c4b1 : decide (40 < l0.length) = false := decide_eq_false (by omega)
      clear c4
      have H' := Aside0.mk H
      clear H
      go_enter Tryd.func6, Tryd.ntmps6
      go_wp2_with (first | ((with_reducible refine gate_callee (f := 7) rfl ?_); refine goesL_ (some 12) rfl rfl Tryd.func7 (by kernel_rfl) rfl #[] rfl (by (try simp only [List.map_toArray, List.map_cons, List.map_nil]); first | done | rfl | (simp only [List.length_drop, List.length_take]; rfl)) ?_; (with_reducible refine (palinglaw14_awake.calls k  true _ A2.out (GlobOK.step HGL.out (by repeat (first | (with_reducible first | exact HB.out | apply below_alloc | apply pw_below_drewN | apply below_drew1) | exact HB.out)))).mono ?_); rintro e w6 ⟨rfl, hb⟩; refine ⟨_, rfl, ?_⟩; have n0_ := Aside0.mk (below_step (by repeat (first | (with_reducible first | exact HB.out | apply below_alloc | apply pw_below_drewN | apply below_drew1) | exact HB.out)) hb); clear HB; have HB := n0_; clear n0_; (try clear hb); (try clear hb2); (try clear hk); (try clear hi)))
      go_loopg [4, 5] k (fun kq v4 v5 w' => ∃ (x4_1 : Int) (x5_1 : Int), v4 = .int .i64 x4_1 ∧ v5 = .int .i64 x5_1 ∧ Aside0 (palinglaw14_GraphStraight.l0 kq l0 x4_1 x5_1 = some r) ∧ Aside0 (kq ≤ k) ∧ Aside0 (Below w.heap.size w w'))
      case atStart => exact ⟨(wrap64 ((l0.length : Int) - 1)), (wrap64 ((l0.length : Int) - 1)), (by first | rfl | (simp; done) | (simp [*]; done)), (by first | rfl | (simp; done) | (simp [*]; done)), H', ⟨Nat.le_refl _⟩, ⟨by repeat (first | (with_reducible first | exact HB.out | apply below_alloc | apply pw_below_drewN | apply below_drew1) | exact HB.out)⟩⟩
      case round =>
        clear H'
        try clear p2
        try clear c3
        try clear c4
        try clear c4b0
        try clear c4b1
        try clear c6
        try clear p6
        obtain ⟨x4_1, x5_1, rfl, rfl, HA, HK1, HB⟩ := hrel
        cases gk with
        | zero => exact absurd HA.out (by simp [palinglaw14_GraphStraight.l0])
        | succ k1 =>
          have H := HA.out
          clear HA
          simp only [palinglaw14_GraphStraight.l0] at H
          by_cases c7 : x5_1 ≥ 0
          · rw [if_pos c7] at H
            have c7b0 : decide (0 ≤ x5_1) = true := decide_eq_true c7
            clear c7
            have HC8 := Aside0.mk H
            clear H
            go_upto_region 10 with (fail)
            go_cut [57] (fun v57 wc => ∃ (kq : Nat) (x57_7 : Bool), v57 = .bool x57_7 ∧ Aside0 (palinglaw14_GraphStraight.j1 kq l0 x4_1 x5_1 x57_7 = some r) ∧ Aside0 (kq ≤ k1) ∧ Aside0 (Below w.heap.size w wc))
            case first =>
              have H := HC8.out
              clear HC8
              by_cases c9 : 0 ≤ x5_1
              · rw [if_pos c9] at H
                have c9b0 : decide (0 ≤ x5_1) = true := decide_eq_true c9
                clear c9
                (first | rw [c9b0] | (simp only [i64_w, i32_w]; rw [c9b0]) | skip)
                by_cases c10 : x5_1 < (l0.length : Int)
                · rw [if_pos c10] at H
                  have c10b0 : decide (x5_1 < (l0.length : Int)) = true := decide_eq_true c10
                  clear c10
                  by_cases c11 : ((rd_T37 l0 x5_1).f0) = 6
                  · rw [if_pos c11] at H
                    have c11b0 : (((rd_T37 l0 x5_1).f0) == 6) = true := beq_iff_eq.mpr c11
                    have c11b1 : (((rd_T37 l0 x5_1).f0) != 6) = false := bne_eq_false_iff_eq.mpr c11
                    clear c11
                    have H' := Aside0.mk H
                    clear H
                    have p179 : 0 ≤ (x5_1 : Int) := of_decide_eq_true (by first | (with_reducible assumption) | assumption)
                    have q179 : x5_1 < (l0.length : Int) := of_decide_eq_true (by first | (with_reducible assumption) | assumption)
                    obtain ⟨ad179, e179, hx179_0, hx179_1, hx179_2, hx179_3, hx179_4, hx179_5, hx179_6⟩ := at_T37 HR0.out x5_1 p179 q179
                    cases e179
                    replace hx179_0 := (HB.out.cell (World.block_lt_of_cell? w _ hx179_0)).trans hx179_0
                    replace hx179_1 := (HB.out.cell (World.block_lt_of_cell? w _ hx179_1)).trans hx179_1
                    replace hx179_2 := (HB.out.cell (World.block_lt_of_cell? w _ hx179_2)).trans hx179_2
                    replace hx179_3 := (HB.out.cell (World.block_lt_of_cell? w _ hx179_3)).trans hx179_3
                    replace hx179_4 := (HB.out.cell (World.block_lt_of_cell? w _ hx179_4)).trans hx179_4
                    replace hx179_5 := (HB.out.cell (World.block_lt_of_cell? w _ hx179_5)).trans hx179_5
                    replace hx179_6 := (HB.out.cell (World.block_lt_of_cell? w _ hx179_6)).trans hx179_6
                    replace p179 := eq_true p179
                    replace q179 := eq_true q179
                    go_wp2
                    go_meet
                    case rel => exact ⟨_, (true), (by first | rfl | (simp; done) | (simp [*]; done)), H', ⟨by have := HK1.out; first | omega | exact Nat.le_refl _⟩, ⟨by repeat (first | (with_reducible first | exact HB.out | apply below_alloc | apply pw_below_drewN | apply below_drew1) | exact HB.out)⟩⟩
                  · rw [if_neg c11] at H
                    have c11b0 : (((rd_T37 l0 x5_1).f0) == 6) = false := beq_eq_false_iff_ne.mpr c11
                    have c11b1 : (((rd_T37 l0 x5_1).f0) != 6) = true := bne_iff_ne.mpr c11
                    by_cases c12 : ((rd_T37 l0 x5_1).f0) = 7
                    · rw [if_pos c12] at H
                      have c12b0 : (((rd_T37 l0 x5_1).f0) == 7) = true := beq_iff_eq.mpr c12
                      have c12b1 : (((rd_T37 l0 x5_1).f0) != 7) = false := bne_eq_false_iff_eq.mpr c12
                      clear c12
                      have H' := Aside0.mk H
                      clear H
                      have p179 : 0 ≤ (x5_1 : Int) := of_decide_eq_true (by first | (with_reducible assumption) | assumption)
                      have q179 : x5_1 < (l0.length : Int) := of_decide_eq_true (by first | (with_reducible assumption) | assumption)
                      obtain ⟨ad179, e179, hx179_0, hx179_1, hx179_2, hx179_3, hx179_4, hx179_5, hx179_6⟩ := at_T37 HR0.out x5_1 p179 q179
                      cases e179
                      replace hx179_0 := (HB.out.cell (World.block_lt_of_cell? w _ hx179_0)).trans hx179_0
                      replace hx179_1 := (HB.out.cell (World.block_lt_of_cell? w _ hx179_1)).trans hx179_1
                      replace hx179_2 := (HB.out.cell (World.block_lt_of_cell? w _ hx179_2)).trans hx179_2
                      replace hx179_3 := (HB.out.cell (World.block_lt_of_cell? w _ hx179_3)).trans hx179_3
                      replace hx179_4 := (HB.out.cell (World.block_lt_of_cell? w _ hx179_4)).trans hx179_4
                      replace hx179_5 := (HB.out.cell (World.block_lt_of_cell? w _ hx179_5)).trans hx179_5
                      replace hx179_6 := (HB.out.cell (World.block_lt_of_cell? w _ hx179_6)).trans hx179_6
                      replace p179 := eq_true p179
                      replace q179 := eq_true q179
                      have p180 : 0 ≤ (x5_1 : Int) := of_decide_eq_true (by first | (with_reducible assumption) | assumption)
                      have q180 : x5_1 < (l0.length : Int) := of_decide_eq_true (by first | (with_reducible assumption) | assumption)
                      obtain ⟨ad180, e180, hx180_0, hx180_1, hx180_2, hx180_3, hx180_4, hx180_5, hx180_6⟩ := at_T37 HR0.out x5_1 p180 q180
                      obtain rfl : ad179 = ad180 := (by injection e180)
                      replace hx180_0 := (HB.out.cell (World.block_lt_of_cell? w _ hx180_0)).trans hx180_0
                      replace hx180_1 := (HB.out.cell (World.block_lt_of_cell? w _ hx180_1)).trans hx180_1
                      replace hx180_2 := (HB.out.cell (World.block_lt_of_cell? w _ hx180_2)).trans hx180_2
                      replace hx180_3 := (HB.out.cell (World.block_lt_of_cell? w _ hx180_3)).trans hx180_3
                      replace hx180_4 := (HB.out.cell (World.block_lt_of_cell? w _ hx180_4)).trans hx180_4
                      replace hx180_5 := (HB.out.cell (World.block_lt_of_cell? w _ hx180_5)).trans hx180_5
                      replace hx180_6 := (HB.out.cell (World.block_lt_of_cell? w _ hx180_6)).trans hx180_6
                      replace p180 := eq_true p180
                      replace q180 := eq_true q180
                      go_wp2
                      go_meet
                      case rel => exact ⟨_, (true), (by first | rfl | (simp; done) | (simp [*]; done)), H', ⟨by have := HK1.out; first | omega | exact Nat.le_refl _⟩, ⟨by repeat (first | (with_reducible first | exact HB.out | apply below_alloc | apply pw_below_drewN | apply below_drew1) | exact HB.out)⟩⟩
                    · rw [if_neg c12] at H
                      have c12b0 : (((rd_T37 l0 x5_1).f0) == 7) = false := beq_eq_false_iff_ne.mpr c12
                      have c12b1 : (((rd_T37 l0 x5_1).f0) != 7) = true := bne_iff_ne.mpr c12
                      by_cases c13 : ((rd_T37 l0 x5_1).f0) < 0
                      · rw [if_pos c13] at H
                        have c13b0 : decide (((rd_T37 l0 x5_1).f0) < 0) = true := decide_eq_true c13
                        clear c13
                        have H' := Aside0.mk H
                        clear H
                        have p179 : 0 ≤ (x5_1 : Int) := of_decide_eq_true (by first | (with_reducible assumption) | assumption)
                        have q179 : x5_1 < (l0.length : Int) := of_decide_eq_true (by first | (with_reducible assumption) | assumption)
                        obtain ⟨ad179, e179, hx179_0, hx179_1, hx179_2, hx179_3, hx179_4, hx179_5, hx179_6⟩ := at_T37 HR0.out x5_1 p179 q179
                        cases e179
                        replace hx179_0 := (HB.out.cell (World.block_lt_of_cell? w _ hx179_0)).trans hx179_0
                        replace hx179_1 := (HB.out.cell (World.block_lt_of_cell? w _ hx179_1)).trans hx179_1
                        replace hx179_2 := (HB.out.cell (World.block_lt_of_cell? w _ hx179_2)).trans hx179_2
                        replace hx179_3 := (HB.out.cell (World.block_lt_of_cell? w _ hx179_3)).trans hx179_3
                        replace hx179_4 := (HB.out.cell (World.block_lt_of_cell? w _ hx179_4)).trans hx179_4
                        replace hx179_5 := (HB.out.cell (World.block_lt_of_cell? w _ hx179_5)).trans hx179_5
                        replace hx179_6 := (HB.out.cell (World.block_lt_of_cell? w _ hx179_6)).trans hx179_6
                        replace p179 := eq_true p179
                        replace q179 := eq_true q179
                        have p180 : 0 ≤ (x5_1 : Int) := of_decide_eq_true (by first | (with_reducible assumption) | assumption)
                        have q180 : x5_1 < (l0.length : Int) := of_decide_eq_true (by first | (with_reducible assumption) | assumption)
                        obtain ⟨ad180, e180, hx180_0, hx180_1, hx180_2, hx180_3, hx180_4, hx180_5, hx180_6⟩ := at_T37 HR0.out x5_1 p180 q180
                        obtain rfl : ad179 = ad180 := (by injection e180)
                        replace hx180_0 := (HB.out.cell (World.block_lt_of_cell? w _ hx180_0)).trans hx180_0
                        replace hx180_1 := (HB.out.cell (World.block_lt_of_cell? w _ hx180_1)).trans hx180_1
                        replace hx180_2 := (HB.out.cell (World.block_lt_of_cell? w _ hx180_2)).trans hx180_2
                        replace hx180_3 := (HB.out.cell (World.block_lt_of_cell? w _ hx180_3)).trans hx180_3
                        replace hx180_4 := (HB.out.cell (World.block_lt_of_cell? w _ hx180_4)).trans hx180_4
                        replace hx180_5 := (HB.out.cell (World.block_lt_of_cell? w _ hx180_5)).trans hx180_5
                        replace hx180_6 := (HB.out.cell (World.block_lt_of_cell? w _ hx180_6)).trans hx180_6
                        replace p180 := eq_true p180
                        replace q180 := eq_true q180
                        have p181 : 0 ≤ (x5_1 : Int) := of_decide_eq_true (by first | (with_reducible assumption) | assumption)
                        have q181 : x5_1 < (l0.length : Int) := of_decide_eq_true (by first | (with_reducible assumption) | assumption)
                        obtain ⟨ad181, e181, hx181_0, hx181_1, hx181_2, hx181_3, hx181_4, hx181_5, hx181_6⟩ := at_T37 HR0.out x5_1 p181 q181
                        obtain rfl : ad179 = ad181 := (by injection e181)
                        replace hx181_0 := (HB.out.cell (World.block_lt_of_cell? w _ hx181_0)).trans hx181_0
                        replace hx181_1 := (HB.out.cell (World.block_lt_of_cell? w _ hx181_1)).trans hx181_1
                        replace hx181_2 := (HB.out.cell (World.block_lt_of_cell? w _ hx181_2)).trans hx181_2
                        replace hx181_3 := (HB.out.cell (World.block_lt_of_cell? w _ hx181_3)).trans hx181_3
                        replace hx181_4 := (HB.out.cell (World.block_lt_of_cell? w _ hx181_4)).trans hx181_4
                        replace hx181_5 := (HB.out.cell (World.block_lt_of_cell? w _ hx181_5)).trans hx181_5
                        replace hx181_6 := (HB.out.cell (World.block_lt_of_cell? w _ hx181_6)).trans hx181_6
                        replace p181 := eq_true p181
                        replace q181 := eq_true q181
                        go_wp2
                        go_meet
                        case rel => exact ⟨_, (true), (by first | rfl | (simp; done) | (simp [*]; done)), H', ⟨by have := HK1.out; first | omega | exact Nat.le_refl _⟩, ⟨by repeat (first | (with_reducible first | exact HB.out | apply below_alloc | apply pw_below_drewN | apply below_drew1) | exact HB.out)⟩⟩
                      · rw [if_neg c13] at H
                        have c13b0 : decide (((rd_T37 l0 x5_1).f0) < 0) = false := decide_eq_false c13
                        clear c13
                        have H' := Aside0.mk H
                        clear H
                        have p179 : 0 ≤ (x5_1 : Int) := of_decide_eq_true (by first | (with_reducible assumption) | assumption)
                        have q179 : x5_1 < (l0.length : Int) := of_decide_eq_true (by first | (with_reducible assumption) | assumption)
                        obtain ⟨ad179, e179, hx179_0, hx179_1, hx179_2, hx179_3, hx179_4, hx179_5, hx179_6⟩ := at_T37 HR0.out x5_1 p179 q179
                        cases e179
                        replace hx179_0 := (HB.out.cell (World.block_lt_of_cell? w _ hx179_0)).trans hx179_0
                        replace hx179_1 := (HB.out.cell (World.block_lt_of_cell? w _ hx179_1)).trans hx179_1
                        replace hx179_2 := (HB.out.cell (World.block_lt_of_cell? w _ hx179_2)).trans hx179_2
                        replace hx179_3 := (HB.out.cell (World.block_lt_of_cell? w _ hx179_3)).trans hx179_3
                        replace hx179_4 := (HB.out.cell (World.block_lt_of_cell? w _ hx179_4)).trans hx179_4
                        replace hx179_5 := (HB.out.cell (World.block_lt_of_cell? w _ hx179_5)).trans hx179_5
                        replace hx179_6 := (HB.out.cell (World.block_lt_of_cell? w _ hx179_6)).trans hx179_6
                        replace p179 := eq_true p179
                        replace q179 := eq_true q179
                        have p180 : 0 ≤ (x5_1 : Int) := of_decide_eq_true (by first | (with_reducible assumption) | assumption)
                        have q180 : x5_1 < (l0.length : Int) := of_decide_eq_true (by first | (with_reducible assumption) | assumption)
                        obtain ⟨ad180, e180, hx180_0, hx180_1, hx180_2, hx180_3, hx180_4, hx180_5, hx180_6⟩ := at_T37 HR0.out x5_1 p180 q180
                        obtain rfl : ad179 = ad180 := (by injection e180)
                        replace hx180_0 := (HB.out.cell (World.block_lt_of_cell? w _ hx180_0)).trans hx180_0
                        replace hx180_1 := (HB.out.cell (World.block_lt_of_cell? w _ hx180_1)).trans hx180_1
                        replace hx180_2 := (HB.out.cell (World.block_lt_of_cell? w _ hx180_2)).trans hx180_2
                        replace hx180_3 := (HB.out.cell (World.block_lt_of_cell? w _ hx180_3)).trans hx180_3
                        replace hx180_4 := (HB.out.cell (World.block_lt_of_cell? w _ hx180_4)).trans hx180_4
                        replace hx180_5 := (HB.out.cell (World.block_lt_of_cell? w _ hx180_5)).trans hx180_5
                        replace hx180_6 := (HB.out.cell (World.block_lt_of_cell? w _ hx180_6)).trans hx180_6
                        replace p180 := eq_true p180
                        replace q180 := eq_true q180
                        have p181 : 0 ≤ (x5_1 : Int) := of_decide_eq_true (by first | (with_reducible assumption) | assumption)
                        have q181 : x5_1 < (l0.length : Int) := of_decide_eq_true (by first | (with_reducible assumption) | assumption)
                        obtain ⟨ad181, e181, hx181_0, hx181_1, hx181_2, hx181_3, hx181_4, hx181_5, hx181_6⟩ := at_T37 HR0.out x5_1 p181 q181
                        obtain rfl : ad179 = ad181 := (by injection e181)
                        replace hx181_0 := (HB.out.cell (World.block_lt_of_cell? w _ hx181_0)).trans hx181_0
                        replace hx181_1 := (HB.out.cell (World.block_lt_of_cell? w _ hx181_1)).trans hx181_1
                        replace hx181_2 := (HB.out.cell (World.block_lt_of_cell? w _ hx181_2)).trans hx181_2
                        replace hx181_3 := (HB.out.cell (World.block_lt_of_cell? w _ hx181_3)).trans hx181_3
                        replace hx181_4 := (HB.out.cell (World.block_lt_of_cell? w _ hx181_4)).trans hx181_4
                        replace hx181_5 := (HB.out.cell (World.block_lt_of_cell? w _ hx181_5)).trans hx181_5
                        replace hx181_6 := (HB.out.cell (World.block_lt_of_cell? w _ hx181_6)).trans hx181_6
                        replace p181 := eq_true p181
                        replace q181 := eq_true q181
                        have p182 : 0 ≤ (x5_1 : Int) := of_decide_eq_true (by first | (with_reducible assumption) | assumption)
                        have q182 : x5_1 < (l0.length : Int) := of_decide_eq_true (by first | (with_reducible assumption) | assumption)
                        obtain ⟨ad182, e182, hx182_0, hx182_1, hx182_2, hx182_3, hx182_4, hx182_5, hx182_6⟩ := at_T37 HR0.out x5_1 p182 q182
                        obtain rfl : ad179 = ad182 := (by injection e182)
                        replace hx182_0 := (HB.out.cell (World.block_lt_of_cell? w _ hx182_0)).trans hx182_0
                        replace hx182_1 := (HB.out.cell (World.block_lt_of_cell? w _ hx182_1)).trans hx182_1
                        replace hx182_2 := (HB.out.cell (World.block_lt_of_cell? w _ hx182_2)).trans hx182_2
                        replace hx182_3 := (HB.out.cell (World.block_lt_of_cell? w _ hx182_3)).trans hx182_3
                        replace hx182_4 := (HB.out.cell (World.block_lt_of_cell? w _ hx182_4)).trans hx182_4
                        replace hx182_5 := (HB.out.cell (World.block_lt_of_cell? w _ hx182_5)).trans hx182_5
                        replace hx182_6 := (HB.out.cell (World.block_lt_of_cell? w _ hx182_6)).trans hx182_6
                        replace p182 := eq_true p182
                        replace q182 := eq_true q182
                        go_wp2
                        go_meet
                        case rel => exact ⟨_, (decide (((rd_T37 l0 x5_1).f0) > 13)), (by first | rfl | (simp; done) | (simp [*]; done)), H', ⟨by have := HK1.out; first | omega | exact Nat.le_refl _⟩, ⟨by repeat (first | (with_reducible first | exact HB.out | apply below_alloc | apply pw_below_drewN | apply below_drew1) | exact HB.out)⟩⟩
                · rw [if_neg c10] at H
                  exact absurd H (by simp)
              · rw [if_neg c9] at H
                exact absurd H (by simp)
            case rest =>
              clear HC8
              try clear c1
              try clear p1
              try clear q1
              try clear hx1
              try clear p2
              try clear c3
              try clear c4
              try clear c4b0
              try clear c4b1
              try clear c6
              try clear p6
              try clear c7
              try clear c7b0
              try clear c9
              try clear c9b0
              try clear c10
              try clear c10b0
              try clear c11
              try clear c11b0
              try clear c11b1
              try clear c12
              try clear c12b0
              try clear c12b1
              try clear c13
              try clear c13b0
              try clear hx179_0
              try clear hx179_1
              try clear hx179_2
              try clear hx179_3
              try clear hx179_4
              try clear hx179_5
              try clear hx179_6
              try clear hx180_0
              try clear hx180_1
              try clear hx180_2
              try clear hx180_3
              try clear hx180_4
              try clear hx180_5
              try clear hx180_6
              try clear hx181_0
              try clear hx181_1
              try clear hx181_2
              try clear hx181_3
              try clear hx181_4
              try clear hx181_5
              try clear hx181_6
              try clear hx182_0
              try clear hx182_1
              try clear hx182_2
              try clear hx182_3
              try clear hx182_4
              try clear hx182_5
              try clear hx182_6
              try clear p179
              try clear p180
              try clear p181
              try clear p182
              try clear p2
              try clear p6
              try clear q179
              try clear q180
              try clear q181
              try clear q182
              obtain ⟨kq, x57_7, rfl, HA, HJ7, HB⟩ := hcut
              cases kq with
              | zero => exact absurd HA.out (by simp [palinglaw14_GraphStraight.j1])
              | succ kj7 =>
                have H := HA.out
                clear HA
                simp only [palinglaw14_GraphStraight.j1] at H
                by_cases c14 : x57_7 = true
                · subst c14
                  have H1 : (some true) = some r := by rw [if_pos rfl] at H; exact H
                  clear H
                  have H := H1
                  clear H1
                  obtain rfl := Option.some.inj H
                  go_wp2
                  go_ret
                  exact ⟨by first | rfl | (simp [errW_none, errW_some] <;> rfl) | (simp [*, errW_none, errW_some] <;> rfl), by repeat (first | (with_reducible first | exact HB.out | apply below_alloc | apply pw_below_drewN | apply below_drew1) | exact HB.out)⟩
                · replace c14 := Bool.eq_false_iff.mpr c14
                  subst c14
                  have H1 : (if 0 ≤ x5_1 then (if x5_1 < (l0.length : Int) then (if ((rd_T37 l0 x5_1).f0) = 13 then (palinglaw14_GraphStraight.l0 kj7 l0 x5_1 (wrap64 (x5_1 - 1))) else (if ((rd_T37 l0 x5_1).f0) = 12 then (palinglaw14_GraphStraight.l0 kj7 l0 x5_1 (wrap64 (x5_1 - 1))) else (palinglaw14_GraphStraight.l0 kj7 l0 x4_1 (wrap64 (x5_1 - 1))))) else (none)) else (none)) = some r := by rw [if_neg (show ¬ (false = true) by decide)] at H; exact H
                  clear H
                  have H := H1
                  clear H1
                  by_cases c15 : 0 ≤ x5_1
                  · rw [if_pos c15] at H
                    have c15b0 : decide (0 ≤ x5_1) = true := decide_eq_true c15
                    clear c15
                    by_cases c16 : x5_1 < (l0.length : Int)
                    · rw [if_pos c16] at H
                      have c16b0 : decide (x5_1 < (l0.length : Int)) = true := decide_eq_true c16
                      clear c16
                      by_cases c17 : ((rd_T37 l0 x5_1).f0) = 13
                      · rw [if_pos c17] at H
                        have c17b0 : (((rd_T37 l0 x5_1).f0) == 13) = true := beq_iff_eq.mpr c17
                        have c17b1 : (((rd_T37 l0 x5_1).f0) != 13) = false := bne_eq_false_iff_eq.mpr c17
                        clear c17
                        have H' := Aside0.mk H
                        clear H
                        have p183 : 0 ≤ (x5_1 : Int) := of_decide_eq_true (by first | (with_reducible assumption) | assumption)
                        have q183 : x5_1 < (l0.length : Int) := of_decide_eq_true (by first | (with_reducible assumption) | assumption)
                        obtain ⟨ad183, e183, hx183_0, hx183_1, hx183_2, hx183_3, hx183_4, hx183_5, hx183_6⟩ := at_T37 HR0.out x5_1 p183 q183
                        cases e183
                        replace hx183_0 := (HB.out.cell (World.block_lt_of_cell? w _ hx183_0)).trans hx183_0
                        replace hx183_1 := (HB.out.cell (World.block_lt_of_cell? w _ hx183_1)).trans hx183_1
                        replace hx183_2 := (HB.out.cell (World.block_lt_of_cell? w _ hx183_2)).trans hx183_2
                        replace hx183_3 := (HB.out.cell (World.block_lt_of_cell? w _ hx183_3)).trans hx183_3
                        replace hx183_4 := (HB.out.cell (World.block_lt_of_cell? w _ hx183_4)).trans hx183_4
                        replace hx183_5 := (HB.out.cell (World.block_lt_of_cell? w _ hx183_5)).trans hx183_5
                        replace hx183_6 := (HB.out.cell (World.block_lt_of_cell? w _ hx183_6)).trans hx183_6
                        replace p183 := eq_true p183
                        replace q183 := eq_true q183
                        go_wp2
                        go_roundg kj7
                        case measure => have := HK1.out; have := HJ7.out; omega
                        case rel => exact ⟨(x5_1), (wrap64 (x5_1 - 1)), (by first | rfl | (simp; done) | (simp [*]; done)), (by first | rfl | (simp; done) | (simp [*]; done)), H', ⟨by have := HK1.out; have := HJ7.out; omega⟩, ⟨by repeat (first | (with_reducible first | exact HB.out | apply below_alloc | apply pw_below_drewN | apply below_drew1) | exact HB.out)⟩⟩
                      · rw [if_neg c17] at H
                        have c17b0 : (((rd_T37 l0 x5_1).f0) == 13) = false := beq_eq_false_iff_ne.mpr c17
                        have c17b1 : (((rd_T37 l0 x5_1).f0) != 13) = true := bne_iff_ne.mpr c17
                        by_cases c18 : ((rd_T37 l0 x5_1).f0) = 12
                        · rw [if_pos c18] at H
                          have c18b0 : (((rd_T37 l0 x5_1).f0) == 12) = true := beq_iff_eq.mpr c18
                          have c18b1 : (((rd_T37 l0 x5_1).f0) != 12) = false := bne_eq_false_iff_eq.mpr c18
                          clear c18
                          have H' := Aside0.mk H
                          clear H
                          have p183 : 0 ≤ (x5_1 : Int) := of_decide_eq_true (by first | (with_reducible assumption) | assumption)
                          have q183 : x5_1 < (l0.length : Int) := of_decide_eq_true (by first | (with_reducible assumption) | assumption)
                          obtain ⟨ad183, e183, hx183_0, hx183_1, hx183_2, hx183_3, hx183_4, hx183_5, hx183_6⟩ := at_T37 HR0.out x5_1 p183 q183
                          cases e183
                          replace hx183_0 := (HB.out.cell (World.block_lt_of_cell? w _ hx183_0)).trans hx183_0
                          replace hx183_1 := (HB.out.cell (World.block_lt_of_cell? w _ hx183_1)).trans hx183_1
                          replace hx183_2 := (HB.out.cell (World.block_lt_of_cell? w _ hx183_2)).trans hx183_2
                          replace hx183_3 := (HB.out.cell (World.block_lt_of_cell? w _ hx183_3)).trans hx183_3
                          replace hx183_4 := (HB.out.cell (World.block_lt_of_cell? w _ hx183_4)).trans hx183_4
                          replace hx183_5 := (HB.out.cell (World.block_lt_of_cell? w _ hx183_5)).trans hx183_5
                          replace hx183_6 := (HB.out.cell (World.block_lt_of_cell? w _ hx183_6)).trans hx183_6
                          replace p183 := eq_true p183
                          replace q183 := eq_true q183
                          have p184 : 0 ≤ (x5_1 : Int) := of_decide_eq_true (by first | (with_reducible assumption) | assumption)
                          have q184 : x5_1 < (l0.length : Int) := of_decide_eq_true (by first | (with_reducible assumption) | assumption)
                          obtain ⟨ad184, e184, hx184_0, hx184_1, hx184_2, hx184_3, hx184_4, hx184_5, hx184_6⟩ := at_T37 HR0.out x5_1 p184 q184
                          obtain rfl : ad183 = ad184 := (by injection e184)
                          replace hx184_0 := (HB.out.cell (World.block_lt_of_cell? w _ hx184_0)).trans hx184_0
                          replace hx184_1 := (HB.out.cell (World.block_lt_of_cell? w _ hx184_1)).trans hx184_1
                          replace hx184_2 := (HB.out.cell (World.block_lt_of_cell? w _ hx184_2)).trans hx184_2
                          replace hx184_3 := (HB.out.cell (World.block_lt_of_cell? w _ hx184_3)).trans hx184_3
                          replace hx184_4 := (HB.out.cell (World.block_lt_of_cell? w _ hx184_4)).trans hx184_4
                          replace hx184_5 := (HB.out.cell (World.block_lt_of_cell? w _ hx184_5)).trans hx184_5
                          replace hx184_6 := (HB.out.cell (World.block_lt_of_cell? w _ hx184_6)).trans hx184_6
                          replace p184 := eq_true p184
                          replace q184 := eq_true q184
                          go_wp2
                          go_roundg kj7
                          case measure => have := HK1.out; have := HJ7.out; omega
                          case rel => exact ⟨(x5_1), (wrap64 (x5_1 - 1)), (by first | rfl | (simp; done) | (simp [*]; done)), (by first | rfl | (simp; done) | (simp [*]; done)), H', ⟨by have := HK1.out; have := HJ7.out; omega⟩, ⟨by repeat (first | (with_reducible first | exact HB.out | apply below_alloc | apply pw_below_drewN | apply below_drew1) | exact HB.out)⟩⟩
                        · rw [if_neg c18] at H
                          have c18b0 : (((rd_T37 l0 x5_1).f0) == 12) = false := beq_eq_false_iff_ne.mpr c18
                          have c18b1 : (((rd_T37 l0 x5_1).f0) != 12) = true := bne_iff_ne.mpr c18
                          have H' := Aside0.mk H
                          clear H
                          have p183 : 0 ≤ (x5_1 : Int) := of_decide_eq_true (by first | (with_reducible assumption) | assumption)
                          have q183 : x5_1 < (l0.length : Int) := of_decide_eq_true (by first | (with_reducible assumption) | assumption)
                          obtain ⟨ad183, e183, hx183_0, hx183_1, hx183_2, hx183_3, hx183_4, hx183_5, hx183_6⟩ := at_T37 HR0.out x5_1 p183 q183
                          cases e183
                          replace hx183_0 := (HB.out.cell (World.block_lt_of_cell? w _ hx183_0)).trans hx183_0
                          replace hx183_1 := (HB.out.cell (World.block_lt_of_cell? w _ hx183_1)).trans hx183_1
                          replace hx183_2 := (HB.out.cell (World.block_lt_of_cell? w _ hx183_2)).trans hx183_2
                          replace hx183_3 := (HB.out.cell (World.block_lt_of_cell? w _ hx183_3)).trans hx183_3
                          replace hx183_4 := (HB.out.cell (World.block_lt_of_cell? w _ hx183_4)).trans hx183_4
                          replace hx183_5 := (HB.out.cell (World.block_lt_of_cell? w _ hx183_5)).trans hx183_5
                          replace hx183_6 := (HB.out.cell (World.block_lt_of_cell? w _ hx183_6)).trans hx183_6
                          replace p183 := eq_true p183
                          replace q183 := eq_true q183
                          have p184 : 0 ≤ (x5_1 : Int) := of_decide_eq_true (by first | (with_reducible assumption) | assumption)
                          have q184 : x5_1 < (l0.length : Int) := of_decide_eq_true (by first | (with_reducible assumption) | assumption)
                          obtain ⟨ad184, e184, hx184_0, hx184_1, hx184_2, hx184_3, hx184_4, hx184_5, hx184_6⟩ := at_T37 HR0.out x5_1 p184 q184
                          obtain rfl : ad183 = ad184 := (by injection e184)
                          replace hx184_0 := (HB.out.cell (World.block_lt_of_cell? w _ hx184_0)).trans hx184_0
                          replace hx184_1 := (HB.out.cell (World.block_lt_of_cell? w _ hx184_1)).trans hx184_1
                          replace hx184_2 := (HB.out.cell (World.block_lt_of_cell? w _ hx184_2)).trans hx184_2
                          replace hx184_3 := (HB.out.cell (World.block_lt_of_cell? w _ hx184_3)).trans hx184_3
                          replace hx184_4 := (HB.out.cell (World.block_lt_of_cell? w _ hx184_4)).trans hx184_4
                          replace hx184_5 := (HB.out.cell (World.block_lt_of_cell? w _ hx184_5)).trans hx184_5
                          replace hx184_6 := (HB.out.cell (World.block_lt_of_cell? w _ hx184_6)).trans hx184_6
                          replace p184 := eq_true p184
                          replace q184 := eq_true q184
                          go_wp2
                          go_roundg kj7
                          case measure => have := HK1.out; have := HJ7.out; omega
                          case rel => exact ⟨(x4_1), (wrap64 (x5_1 - 1)), (by first | rfl | (simp; done) | (simp [*]; done)), (by first | rfl | (simp; done) | (simp [*]; done)), H', ⟨by have := HK1.out; have := HJ7.out; omega⟩, ⟨by repeat (first | (with_reducible first | exact HB.out | apply below_alloc | apply pw_below_drewN | apply below_drew1) | exact HB.out)⟩⟩
                    · rw [if_neg c16] at H
                      exact absurd H (by simp)
                  · rw [if_neg c15] at H
                    exact absurd H (by simp)
          · rw [if_neg c7] at H
            have c7b0 : decide (0 ≤ x5_1) = false := decide_eq_false c7
            clear c7
            replace H := Option.bind_eq_some_iff.mp H
            obtain ⟨t185, A190, H⟩ := H
            replace H : ((graph_Dominates.f k1 l0).bind fun t188 => ((graph_Depth.f k1 l0).bind fun t191 => ((graph_Preds.f k1 l0).bind fun t194 => (palinglaw14_GraphStraight.l1 k1 l0 x4_1 t185 t188 t191 t194 0)))) = some r := H
            have A19 := Aside0.mk A190
            clear A190
            replace H := Option.bind_eq_some_iff.mp H
            obtain ⟨t188, A200, H⟩ := H
            replace H : ((graph_Depth.f k1 l0).bind fun t191 => ((graph_Preds.f k1 l0).bind fun t194 => (palinglaw14_GraphStraight.l1 k1 l0 x4_1 t185 t188 t191 t194 0))) = some r := H
            have A20 := Aside0.mk A200
            clear A200
            replace H := Option.bind_eq_some_iff.mp H
            obtain ⟨t191, A210, H⟩ := H
            replace H : ((graph_Preds.f k1 l0).bind fun t194 => (palinglaw14_GraphStraight.l1 k1 l0 x4_1 t185 t188 t191 t194 0)) = some r := H
            have A21 := Aside0.mk A210
            clear A210
            replace H := Option.bind_eq_some_iff.mp H
            obtain ⟨t194, A220, H⟩ := H
            replace H : (palinglaw14_GraphStraight.l1 k1 l0 x4_1 t185 t188 t191 t194 0) = some r := H
            have A22 := Aside0.mk A220
            clear A220
            have H' := Aside0.mk H
            clear H
            go_wp2_with (first | ((with_reducible refine gate_callee (f := 9) rfl ?_); refine goesL_ (some 74) rfl rfl Tryd.func9 (by kernel_rfl) rfl #[.slice A0 l0.length c0] rfl (by (try simp only [List.map_toArray, List.map_cons, List.map_nil]); first | done | rfl | (simp only [List.length_drop, List.length_take]; rfl)) ?_; (with_reducible refine (graph_Reach.calls k1 _ _ l0 t185 _ ?side1 ?side2 A19.out (GlobOK.step HGL.out (by repeat (first | (with_reducible first | exact HB.out | apply below_alloc | apply pw_below_drewN | apply below_drew1) | exact HB.out)))).mono ?_); (case side1 => repeat (first | exact (Kd.C_below HR0.out HB.out) | (with_reducible refine Kd.C_alloc ?_ _) | (with_reducible refine Kd.C_drewN ?_ _) | (with_reducible refine Kd.C_drew ?_))); (case side2 => exact HC0.out); rintro e w23 ⟨v186, rfl, ho0, hb⟩; refine ⟨_, rfl, ?_⟩; have n0_ := Aside0.mk (Kd.R_lower ho0 (below_size (by repeat (first | (with_reducible first | exact HB.out | apply below_alloc | apply pw_below_drewN | apply below_drew1) | exact HB.out)))); have n1_ := Aside0.mk (below_step (by repeat (first | (with_reducible first | exact HB.out | apply below_alloc | apply pw_below_drewN | apply below_drew1) | exact HB.out)) hb); clear HB; have HO187 := n0_; have HB := n1_; clear n0_ n1_; (try clear hb); (try clear hb2); (try clear hk); (try clear hi); (try clear ho0)) | ((with_reducible refine gate_callee (f := 14) rfl ?_); refine goesL_ (some 76) rfl rfl Tryd.func14 (by kernel_rfl) rfl #[.slice A0 l0.length c0] rfl (by (try simp only [List.map_toArray, List.map_cons, List.map_nil]); first | done | rfl | (simp only [List.length_drop, List.length_take]; rfl)) ?_; (with_reducible refine (graph_Dominates.calls k1 _ _ l0 t188 _ ?side1 ?side2 A20.out (GlobOK.step HGL.out (by repeat (first | (with_reducible first | exact HB.out | apply below_alloc | apply pw_below_drewN | apply below_drew1) | exact HB.out)))).mono ?_); (case side1 => repeat (first | exact (Kd.C_below HR0.out HB.out) | (with_reducible refine Kd.C_alloc ?_ _) | (with_reducible refine Kd.C_drewN ?_ _) | (with_reducible refine Kd.C_drew ?_))); (case side2 => exact HC0.out); rintro e w24 ⟨v189, rfl, ho0, hb⟩; refine ⟨_, rfl, ?_⟩; have n0_ := Aside0.mk (Kd.R_below (by (with_reducible repeat (first | apply Kd.R_alloc | apply Kd.R_drewN | apply Kd.R_drew)); exact HO187.out) hb); have n1_ := Aside0.mk (Kd.S_lower (Kd.S_new' ho0 (Kd.R_lt (by (with_reducible repeat (first | apply Kd.R_alloc | apply Kd.R_drewN | apply Kd.R_drew)); exact HO187.out))) (below_size (by repeat (first | (with_reducible first | exact HB.out | apply below_alloc | apply pw_below_drewN | apply below_drew1) | exact HB.out)))); have n2_ := Aside0.mk (below_step (by repeat (first | (with_reducible first | exact HB.out | apply below_alloc | apply pw_below_drewN | apply below_drew1) | exact HB.out)) hb); clear HO187; clear HB; have HO187 := n0_; have HO190 := n1_; have HB := n2_; clear n0_ n1_ n2_; (try clear hb); (try clear hb2); (try clear hk); (try clear hi); (try clear ho0)) | ((with_reducible refine gate_callee (f := 19) rfl ?_); refine goesL_ (some 78) rfl rfl Tryd.func19 (by kernel_rfl) rfl #[.slice A0 l0.length c0] rfl (by (try simp only [List.map_toArray, List.map_cons, List.map_nil]); first | done | rfl | (simp only [List.length_drop, List.length_take]; rfl)) ?_; (with_reducible refine (graph_Depth.calls k1 _ _ l0 t191 _ ?side1 ?side2 A21.out (GlobOK.step HGL.out (by repeat (first | (with_reducible first | exact HB.out | apply below_alloc | apply pw_below_drewN | apply below_drew1) | exact HB.out)))).mono ?_); (case side1 => repeat (first | exact (Kd.C_below HR0.out HB.out) | (with_reducible refine Kd.C_alloc ?_ _) | (with_reducible refine Kd.C_drewN ?_ _) | (with_reducible refine Kd.C_drew ?_))); (case side2 => exact HC0.out); rintro e w25 ⟨v192, rfl, ho0, hb⟩; refine ⟨_, rfl, ?_⟩; have n0_ := Aside0.mk (Kd.R_below (by (with_reducible repeat (first | apply Kd.R_alloc | apply Kd.R_drewN | apply Kd.R_drew)); exact HO187.out) hb); have n1_ := Aside0.mk (Kd.S_below (by (with_reducible repeat (first | apply Kd.S_alloc | apply Kd.S_drewN | apply Kd.S_drew)); exact HO190.out) hb); have n2_ := Aside0.mk (Kd.R_lower ho0 (below_size (by repeat (first | (with_reducible first | exact HB.out | apply below_alloc | apply pw_below_drewN | apply below_drew1) | exact HB.out)))); have n3_ := Aside0.mk (below_step (by repeat (first | (with_reducible first | exact HB.out | apply below_alloc | apply pw_below_drewN | apply below_drew1) | exact HB.out)) hb); clear HO187; clear HO190; clear HB; have HO187 := n0_; have HO190 := n1_; have HO193 := n2_; have HB := n3_; clear n0_ n1_ n2_ n3_; (try clear hb); (try clear hb2); (try clear hk); (try clear hi); (try clear ho0)) | ((with_reducible refine gate_callee (f := 12) rfl ?_); refine goesL_ (some 80) rfl rfl Tryd.func12 (by kernel_rfl) rfl #[.slice A0 l0.length c0] rfl (by (try simp only [List.map_toArray, List.map_cons, List.map_nil]); first | done | rfl | (simp only [List.length_drop, List.length_take]; rfl)) ?_; (with_reducible refine (graph_Preds.calls k1 _ _ l0 t194 _ ?side1 ?side2 A22.out (GlobOK.step HGL.out (by repeat (first | (with_reducible first | exact HB.out | apply below_alloc | apply pw_below_drewN | apply below_drew1) | exact HB.out)))).mono ?_); (case side1 => repeat (first | exact (Kd.C_below HR0.out HB.out) | (with_reducible refine Kd.C_alloc ?_ _) | (with_reducible refine Kd.C_drewN ?_ _) | (with_reducible refine Kd.C_drew ?_))); (case side2 => exact HC0.out); rintro e w26 ⟨v195, rfl, ho0, hb⟩; refine ⟨_, rfl, ?_⟩; have n0_ := Aside0.mk (Kd.R_below (by (with_reducible repeat (first | apply Kd.R_alloc | apply Kd.R_drewN | apply Kd.R_drew)); exact HO187.out) hb); have n1_ := Aside0.mk (Kd.S_below (by (with_reducible repeat (first | apply Kd.S_alloc | apply Kd.S_drewN | apply Kd.S_drew)); exact HO190.out) hb); have n2_ := Aside0.mk (Kd.R_below (by (with_reducible repeat (first | apply Kd.R_alloc | apply Kd.R_drewN | apply Kd.R_drew)); exact HO193.out) hb); have n3_ := Aside0.mk (Kd.S_lower (Kd.S_new' ho0 (Kd.R_lt (by (with_reducible repeat (first | apply Kd.R_alloc | apply Kd.R_drewN | apply Kd.R_drew)); exact HO193.out))) (below_size (by repeat (first | (with_reducible first | exact HB.out | apply below_alloc | apply pw_below_drewN | apply below_drew1) | exact HB.out)))); have n4_ := Aside0.mk (below_step (by repeat (first | (with_reducible first | exact HB.out | apply below_alloc | apply pw_below_drewN | apply below_drew1) | exact HB.out)) hb); clear HO187; clear HO190; clear HO193; clear HB; have HO187 := n0_; have HO190 := n1_; have HO193 := n2_; have HO196 := n3_; have HB := n4_; clear n0_ n1_ n2_ n3_ n4_; (try clear hb); (try clear hb2); (try clear hk); (try clear hi); (try clear ho0)))
            go_loopg [10] k1 (fun kq v10 w' => ∃ (x10_2 : Int), v10 = .int .i64 x10_2 ∧ Aside0 (palinglaw14_GraphStraight.l1 kq l0 x4_1 t185 t188 t191 t194 x10_2 = some r) ∧ Aside0 (kq ≤ k1) ∧ Aside0 (Kd.R Kd.bool 4 w' w.heap.size (fun _ => True) v186 t185) ∧ Aside0 (Kd.S (Kd.slice 4 Kd.bool) 25 w' w.heap.size (fun k_ => some k_ ≠ (v186 : Value).ownBlock) v189 t188) ∧ Aside0 (Kd.R (Kd.int .i64) 3 w' w.heap.size (fun _ => True) v192 t191) ∧ Aside0 (Kd.S (Kd.slice 3 (Kd.int .i64)) 34 w' w.heap.size (fun k_ => some k_ ≠ (v192 : Value).ownBlock) v195 t194) ∧ Aside0 (Below w.heap.size w w'))
            case atStart => exact ⟨(0), (by first | rfl | (simp; done) | (simp [*]; done)), H', ⟨Nat.le_refl _⟩, ⟨by (with_reducible repeat (first | apply Kd.R_alloc | apply Kd.R_drewN | apply Kd.R_drew)); exact HO187.out⟩, ⟨by (with_reducible repeat (first | apply Kd.S_alloc | apply Kd.S_drewN | apply Kd.S_drew)); exact Kd.S_mono HO190.out (fun _ hk => hk.2)⟩, ⟨by (with_reducible repeat (first | apply Kd.R_alloc | apply Kd.R_drewN | apply Kd.R_drew)); exact HO193.out⟩, ⟨by (with_reducible repeat (first | apply Kd.S_alloc | apply Kd.S_drewN | apply Kd.S_drew)); exact Kd.S_mono HO196.out (fun _ hk => hk.2)⟩, ⟨by repeat (first | (with_reducible first | exact HB.out | apply below_alloc | apply pw_below_drewN | apply below_drew1) | exact HB.out)⟩⟩
            case round =>
              clear H'
              try clear c1
              try clear p1
              try clear q1
              try clear hx1
              try clear p2
              try clear c3
              try clear c4
              try clear c4b0
              try clear c4b1
              try clear c6
              try clear p6
              try clear c7
              try clear c7b0
              try clear c9
              try clear c9b0
              try clear c10
              try clear c10b0
              try clear c11
              try clear c11b0
              try clear c11b1
              try clear c12
              try clear c12b0
              try clear c12b1
              try clear c13
              try clear c13b0
              try clear c14
              try clear c15
              try clear c15b0
              try clear c16
              try clear c16b0
              try clear c17
              try clear c17b0
              try clear c17b1
              try clear p17
              try clear q17
              try clear hx17
              try clear c18
              try clear c18b0
              try clear c18b1
              try clear p18
              try clear q18
              try clear hx18
              try clear c19
              try clear hx179_0
              try clear hx179_1
              try clear hx179_2
              try clear hx179_3
              try clear hx179_4
              try clear hx179_5
              try clear hx179_6
              try clear hx180_0
              try clear hx180_1
              try clear hx180_2
              try clear hx180_3
              try clear hx180_4
              try clear hx180_5
              try clear hx180_6
              try clear hx181_0
              try clear hx181_1
              try clear hx181_2
              try clear hx181_3
              try clear hx181_4
              try clear hx181_5
              try clear hx181_6
              try clear hx182_0
              try clear hx182_1
              try clear hx182_2
              try clear hx182_3
              try clear hx182_4
              try clear hx182_5
              try clear hx182_6
              try clear hx183_0
              try clear hx183_1
              try clear hx183_2
              try clear hx183_3
              try clear hx183_4
              try clear hx183_5
              try clear hx183_6
              try clear hx184_0
              try clear hx184_1
              try clear hx184_2
              try clear hx184_3
              try clear hx184_4
              try clear hx184_5
              try clear hx184_6
              try clear p1
              try clear p179
              try clear p180
              try clear p181
              try clear p182
              try clear p183
              try clear p184
              try clear p2
              try clear p6
              try clear q1
              try clear q179
              try clear q180
              try clear q181
              try clear q182
              try clear q183
              try clear q184
              obtain ⟨x10_2, rfl, HA, HK2, HO_6, HO_7, HO_8, HO_9, HB⟩ := hrel
              cases gk with
              | zero => exact absurd HA.out (by simp [palinglaw14_GraphStraight.l1])
              | succ k2 =>
                have H := HA.out
                clear HA
                simp only [palinglaw14_GraphStraight.l1] at H
                by_cases c27 : x10_2 < (l0.length : Int)
                · rw [if_pos c27] at H
                  have c27b0 : decide (x10_2 < (l0.length : Int)) = true := decide_eq_true c27
                  clear c27
                  have HC28 := Aside0.mk H
                  clear H
                  go_upto_region 21 with (fail)
                  go_cut [128] (fun v128 wc => ∃ (kq : Nat) (x128_27 : Bool), v128 = .bool x128_27 ∧ Aside0 (palinglaw14_GraphStraight.j3 kq l0 x4_1 t185 t188 t191 t194 x10_2 x128_27 = some r) ∧ Aside0 (kq ≤ k2) ∧ Aside0 (Kd.R Kd.bool 4 wc w.heap.size (fun _ => True) v186 t185) ∧ Aside0 (Kd.S (Kd.slice 4 Kd.bool) 25 wc w.heap.size (fun k_ => some k_ ≠ (v186 : Value).ownBlock) v189 t188) ∧ Aside0 (Kd.R (Kd.int .i64) 3 wc w.heap.size (fun _ => True) v192 t191) ∧ Aside0 (Kd.S (Kd.slice 3 (Kd.int .i64)) 34 wc w.heap.size (fun k_ => some k_ ≠ (v192 : Value).ownBlock) v195 t194) ∧ Aside0 (Below w.heap.size w wc))
                  case first =>
                    have H := HC28.out
                    clear HC28
                    by_cases c29 : 0 ≤ x10_2
                    · rw [if_pos c29] at H
                      have c29b0 : decide (0 ≤ x10_2) = true := decide_eq_true c29
                      clear c29
                      (first | rw [c29b0] | (simp only [i64_w, i32_w]; rw [c29b0]) | skip)
                      by_cases c30 : x10_2 < (t185.length : Int)
                      · rw [if_pos c30] at H
                        have c30b0 : decide (x10_2 < (t185.length : Int)) = true := decide_eq_true c30
                        clear c30
                        by_cases c31 : ((rdOf false t185 x10_2) != (decide (x10_2 ≤ x4_1))) = true
                        · rw [if_pos c31] at H
                          have c31b0 : ((rdOf false t185 x10_2) != (decide (x10_2 ≤ x4_1))) = true := c31
                          (try (have c31b1 : decide ((rdOf false t185 x10_2) = (decide (x10_2 ≤ x4_1))) = false := by simpa using c31))
                          (try (have c31b2 : ((rdOf false t185 x10_2) == (decide (x10_2 ≤ x4_1))) = false := by simpa using c31))
                          (try (have c31b3 : ¬ ((rdOf false t185 x10_2) = (decide (x10_2 ≤ x4_1))) := by simpa using c31))
                          clear c31
                          have H' := Aside0.mk H
                          clear H
                          obtain ⟨Ao32, co32, eo32⟩ := Kd.R_slice HO_6.out
                          subst eo32
                          have p200 : 0 ≤ (x10_2 : Int) := of_decide_eq_true (by first | (with_reducible assumption) | assumption)
                          have q200 : x10_2 < (t185.length : Int) := of_decide_eq_true (by first | (with_reducible assumption) | assumption)
                          obtain ⟨ad200, e200, hx200_0⟩ := Kd.at_bool (Kd.R_reads' HO_6.out).2.2 x10_2 p200 q200
                          cases e200
                          replace p200 := eq_true p200
                          replace q200 := eq_true q200
                          go_wp2
                          go_meet
                          case rel => exact ⟨_, (true), (by first | rfl | (simp; done) | (simp [*]; done)), H', ⟨by have := HK1.out; have := HK2.out; first | omega | exact Nat.le_refl _⟩, ⟨by (with_reducible repeat (first | apply Kd.R_alloc | apply Kd.R_drewN | apply Kd.R_drew)); exact HO_6.out⟩, ⟨by (with_reducible repeat (first | apply Kd.S_alloc | apply Kd.S_drewN | apply Kd.S_drew)); exact HO_7.out⟩, ⟨by (with_reducible repeat (first | apply Kd.R_alloc | apply Kd.R_drewN | apply Kd.R_drew)); exact HO_8.out⟩, ⟨by (with_reducible repeat (first | apply Kd.S_alloc | apply Kd.S_drewN | apply Kd.S_drew)); exact HO_9.out⟩, ⟨by repeat (first | (with_reducible first | exact HB.out | apply below_alloc | apply pw_below_drewN | apply below_drew1) | exact HB.out)⟩⟩
                        · rw [if_neg c31] at H
                          have c31b0 : ((rdOf false t185 x10_2) != (decide (x10_2 ≤ x4_1))) = false := by simpa using c31
                          (try (have c31b1 : decide ((rdOf false t185 x10_2) = (decide (x10_2 ≤ x4_1))) = true := by simpa using c31))
                          (try (have c31b2 : ((rdOf false t185 x10_2) == (decide (x10_2 ≤ x4_1))) = true := by simpa using c31))
                          clear c31
                          by_cases c33 : x10_2 < (t191.length : Int)
                          · rw [if_pos c33] at H
                            have c33b0 : decide (x10_2 < (t191.length : Int)) = true := decide_eq_true c33
                            clear c33
                            by_cases c34 : (rd t191 x10_2) = 0
                            · rw [if_pos c34] at H
                              have c34b0 : ((rd t191 x10_2) == 0) = true := beq_iff_eq.mpr c34
                              have c34b1 : ((rd t191 x10_2) != 0) = false := bne_eq_false_iff_eq.mpr c34
                              clear c34
                              by_cases c35 : x10_2 < (t194.length : Int)
                              · rw [if_pos c35] at H
                                have c35b0 : decide (x10_2 < (t194.length : Int)) = true := decide_eq_true c35
                                clear c35
                                by_cases c36 : ((rd_L5 t194 x10_2).length : Int) > 1
                                · rw [if_pos c36] at H
                                  have c36b0 : decide (1 < ((rd_L5 t194 x10_2).length : Int)) = true := decide_eq_true c36
                                  have c36b1 : decide (1 < (rd_L5 t194 x10_2).length) = true := decide_eq_true (by omega)
                                  clear c36
                                  have H' := Aside0.mk H
                                  clear H
                                  obtain ⟨Ao37, co37, eo37⟩ := Kd.R_slice HO_6.out
                                  subst eo37
                                  have p200 : 0 ≤ (x10_2 : Int) := of_decide_eq_true (by first | (with_reducible assumption) | assumption)
                                  have q200 : x10_2 < (t185.length : Int) := of_decide_eq_true (by first | (with_reducible assumption) | assumption)
                                  obtain ⟨ad200, e200, hx200_0⟩ := Kd.at_bool (Kd.R_reads' HO_6.out).2.2 x10_2 p200 q200
                                  cases e200
                                  replace p200 := eq_true p200
                                  replace q200 := eq_true q200
                                  obtain ⟨Ao38, co38, eo38⟩ := Kd.R_slice HO_8.out
                                  subst eo38
                                  have p201 : 0 ≤ (x10_2 : Int) := of_decide_eq_true (by first | (with_reducible assumption) | assumption)
                                  have q201 : x10_2 < (t191.length : Int) := of_decide_eq_true (by first | (with_reducible assumption) | assumption)
                                  obtain ⟨ad201, e201, hx201_0⟩ := Kd.at_int (Kd.R_reads' HO_8.out).2.2 x10_2 p201 q201
                                  cases e201
                                  replace p201 := eq_true p201
                                  replace q201 := eq_true q201
                                  obtain ⟨Ao39, co39, eo39⟩ := Kd.S_slice HO_9.out
                                  subst eo39
                                  have p202 : 0 ≤ (x10_2 : Int) := of_decide_eq_true (by first | (with_reducible assumption) | assumption)
                                  have q202 : x10_2 < (t194.length : Int) := of_decide_eq_true (by first | (with_reducible assumption) | assumption)
                                  obtain ⟨ad202, A202_0, c202_0, e202, hx202_0, hl202_0, hi202_0⟩ := at_L5 (Kd.S_reads' HO_9.out).2.2 x10_2 p202 q202
                                  cases e202
                                  obtain ⟨ce202, hce202, hMe202, hcc202⟩ := Kd.S_get HO_9.out [] x10_2 p202 (by first | exact q202 | exact of_decide_eq_true (by first | (with_reducible assumption) | assumption) | (have e_ := (Kd.S_reads' HO_9.out).1; omega))
                                  obtain ⟨ve202_0, rfl, ge202_0⟩ := hMe202
                                  have hv202_0 := hcc202 0 _ rfl
                                  rw [Nat.add_zero, show ((Kd.slice 3 (Kd.int .i64))).sz = 1 from rfl, Nat.mul_one] at hv202_0
                                  replace hv202_0 := Option.some.inj (hv202_0.symm.trans hx202_0)
                                  rw [hv202_0] at ge202_0
                                  have HL202_0 := Aside0.mk (show Kd.R (Kd.int .i64) 3 _ _ _ _ (rd_L5 t194 x10_2) from ge202_0)
                                  clear hv202_0 ge202_0
                                  clear hcc202 hce202
                                  have HR202_0 := Aside0.mk hi202_0
                                  have HC202_0 := Aside0.mk hl202_0
                                  clear hi202_0 hl202_0
                                  replace p202 := eq_true p202
                                  replace q202 := eq_true q202
                                  go_wp2
                                  go_meet
                                  case rel => exact ⟨_, (true), (by first | rfl | (simp; done) | (simp [*]; done)), H', ⟨by have := HK1.out; have := HK2.out; first | omega | exact Nat.le_refl _⟩, ⟨by (with_reducible repeat (first | apply Kd.R_alloc | apply Kd.R_drewN | apply Kd.R_drew)); exact HO_6.out⟩, ⟨by (with_reducible repeat (first | apply Kd.S_alloc | apply Kd.S_drewN | apply Kd.S_drew)); exact HO_7.out⟩, ⟨by (with_reducible repeat (first | apply Kd.R_alloc | apply Kd.R_drewN | apply Kd.R_drew)); exact HO_8.out⟩, ⟨by (with_reducible repeat (first | apply Kd.S_alloc | apply Kd.S_drewN | apply Kd.S_drew)); exact HO_9.out⟩, ⟨by repeat (first | (with_reducible first | exact HB.out | apply below_alloc | apply pw_below_drewN | apply below_drew1) | exact HB.out)⟩⟩
                                · rw [if_neg c36] at H
                                  have c36b0 : decide (1 < ((rd_L5 t194 x10_2).length : Int)) = false := decide_eq_false c36
                                  have c36b1 : decide (1 < (rd_L5 t194 x10_2).length) = false := decide_eq_false (by omega)
                                  clear c36
                                  by_cases c40 : ((rd_L5 t194 x10_2).length : Int) = 1
                                  · rw [if_pos c40] at H
                                    have c40b0 : (((rd_L5 t194 x10_2).length : Int) == 1) = true := beq_iff_eq.mpr c40
                                    have c40b1 : (((rd_L5 t194 x10_2).length : Int) != 1) = false := bne_eq_false_iff_eq.mpr c40
                                    clear c40
                                    by_cases c41 : 0 < ((rd_L5 t194 x10_2).length : Int)
                                    · rw [if_pos c41] at H
                                      have c41b0 : decide (0 < ((rd_L5 t194 x10_2).length : Int)) = true := decide_eq_true c41
                                      have c41b1 : decide (0 < (rd_L5 t194 x10_2).length) = true := decide_eq_true (by omega)
                                      clear c41
                                      have H' := Aside0.mk H
                                      clear H
                                      obtain ⟨Ao42, co42, eo42⟩ := Kd.R_slice HO_6.out
                                      subst eo42
                                      have p200 : 0 ≤ (x10_2 : Int) := of_decide_eq_true (by first | (with_reducible assumption) | assumption)
                                      have q200 : x10_2 < (t185.length : Int) := of_decide_eq_true (by first | (with_reducible assumption) | assumption)
                                      obtain ⟨ad200, e200, hx200_0⟩ := Kd.at_bool (Kd.R_reads' HO_6.out).2.2 x10_2 p200 q200
                                      cases e200
                                      replace p200 := eq_true p200
                                      replace q200 := eq_true q200
                                      obtain ⟨Ao43, co43, eo43⟩ := Kd.R_slice HO_8.out
                                      subst eo43
                                      have p201 : 0 ≤ (x10_2 : Int) := of_decide_eq_true (by first | (with_reducible assumption) | assumption)
                                      have q201 : x10_2 < (t191.length : Int) := of_decide_eq_true (by first | (with_reducible assumption) | assumption)
                                      obtain ⟨ad201, e201, hx201_0⟩ := Kd.at_int (Kd.R_reads' HO_8.out).2.2 x10_2 p201 q201
                                      cases e201
                                      replace p201 := eq_true p201
                                      replace q201 := eq_true q201
                                      obtain ⟨Ao44, co44, eo44⟩ := Kd.S_slice HO_9.out
                                      subst eo44
                                      have p202 : 0 ≤ (x10_2 : Int) := of_decide_eq_true (by first | (with_reducible assumption) | assumption)
                                      have q202 : x10_2 < (t194.length : Int) := of_decide_eq_true (by first | (with_reducible assumption) | assumption)
                                      obtain ⟨ad202, A202_0, c202_0, e202, hx202_0, hl202_0, hi202_0⟩ := at_L5 (Kd.S_reads' HO_9.out).2.2 x10_2 p202 q202
                                      cases e202
                                      obtain ⟨ce202, hce202, hMe202, hcc202⟩ := Kd.S_get HO_9.out [] x10_2 p202 (by first | exact q202 | exact of_decide_eq_true (by first | (with_reducible assumption) | assumption) | (have e_ := (Kd.S_reads' HO_9.out).1; omega))
                                      obtain ⟨ve202_0, rfl, ge202_0⟩ := hMe202
                                      have hv202_0 := hcc202 0 _ rfl
                                      rw [Nat.add_zero, show ((Kd.slice 3 (Kd.int .i64))).sz = 1 from rfl, Nat.mul_one] at hv202_0
                                      replace hv202_0 := Option.some.inj (hv202_0.symm.trans hx202_0)
                                      rw [hv202_0] at ge202_0
                                      have HL202_0 := Aside0.mk (show Kd.R (Kd.int .i64) 3 _ _ _ _ (rd_L5 t194 x10_2) from ge202_0)
                                      clear hv202_0 ge202_0
                                      clear hcc202 hce202
                                      have HR202_0 := Aside0.mk hi202_0
                                      have HC202_0 := Aside0.mk hl202_0
                                      clear hi202_0 hl202_0
                                      replace p202 := eq_true p202
                                      replace q202 := eq_true q202
                                      have p203 : 0 ≤ (x10_2 : Int) := of_decide_eq_true (by first | (with_reducible assumption) | assumption)
                                      have q203 : x10_2 < (t194.length : Int) := of_decide_eq_true (by first | (with_reducible assumption) | assumption)
                                      obtain ⟨ad203, A203_0, c203_0, e203, hx203_0, hl203_0, hi203_0⟩ := at_L5 (Kd.S_reads' HO_9.out).2.2 x10_2 p203 q203
                                      obtain rfl : ad202 = ad203 := (by injection e203)
                                      obtain ⟨ce203, hce203, hMe203, hcc203⟩ := Kd.S_get HO_9.out [] x10_2 p203 (by first | exact q203 | exact of_decide_eq_true (by first | (with_reducible assumption) | assumption) | (have e_ := (Kd.S_reads' HO_9.out).1; omega))
                                      obtain ⟨ve203_0, rfl, ge203_0⟩ := hMe203
                                      have hv203_0 := hcc203 0 _ rfl
                                      rw [Nat.add_zero, show ((Kd.slice 3 (Kd.int .i64))).sz = 1 from rfl, Nat.mul_one] at hv203_0
                                      replace hv203_0 := Option.some.inj (hv203_0.symm.trans hx203_0)
                                      rw [hv203_0] at ge203_0
                                      have HL203_0 := Aside0.mk (show Kd.R (Kd.int .i64) 3 _ _ _ _ (rd_L5 t194 x10_2) from ge203_0)
                                      clear hv203_0 ge203_0
                                      clear hcc203 hce203
                                      have HR203_0 := Aside0.mk hi203_0
                                      have HC203_0 := Aside0.mk hl203_0
                                      clear hi203_0 hl203_0
                                      replace p203 := eq_true p203
                                      replace q203 := eq_true q203
                                      have ea_ := Option.some.inj (hx202_0.symm.trans hx203_0)
                                      injection ea_ with ea_ en_ ec_
                                      subst ea_
                                      subst ec_
                                      clear en_
                                      have p204 : 0 ≤ (x10_2 : Int) := of_decide_eq_true (by first | (with_reducible assumption) | assumption)
                                      have q204 : x10_2 < (t194.length : Int) := of_decide_eq_true (by first | (with_reducible assumption) | assumption)
                                      obtain ⟨ad204, A204_0, c204_0, e204, hx204_0, hl204_0, hi204_0⟩ := at_L5 (Kd.S_reads' HO_9.out).2.2 x10_2 p204 q204
                                      obtain rfl : ad202 = ad204 := (by injection e204)
                                      obtain ⟨ce204, hce204, hMe204, hcc204⟩ := Kd.S_get HO_9.out [] x10_2 p204 (by first | exact q204 | exact of_decide_eq_true (by first | (with_reducible assumption) | assumption) | (have e_ := (Kd.S_reads' HO_9.out).1; omega))
                                      obtain ⟨ve204_0, rfl, ge204_0⟩ := hMe204
                                      have hv204_0 := hcc204 0 _ rfl
                                      rw [Nat.add_zero, show ((Kd.slice 3 (Kd.int .i64))).sz = 1 from rfl, Nat.mul_one] at hv204_0
                                      replace hv204_0 := Option.some.inj (hv204_0.symm.trans hx204_0)
                                      rw [hv204_0] at ge204_0
                                      have HL204_0 := Aside0.mk (show Kd.R (Kd.int .i64) 3 _ _ _ _ (rd_L5 t194 x10_2) from ge204_0)
                                      clear hv204_0 ge204_0
                                      clear hcc204 hce204
                                      have HR204_0 := Aside0.mk hi204_0
                                      have HC204_0 := Aside0.mk hl204_0
                                      clear hi204_0 hl204_0
                                      replace p204 := eq_true p204
                                      replace q204 := eq_true q204
                                      have ea_ := Option.some.inj (hx202_0.symm.trans hx204_0)
                                      injection ea_ with ea_ en_ ec_
                                      subst ea_
                                      subst ec_
                                      clear en_
                                      have p205 : 0 ≤ (0 : Int) := (by omega)
                                      have q205 : 0 < ((rd_L5 t194 x10_2).length : Int) := of_decide_eq_true (by first | (with_reducible assumption) | assumption)
                                      obtain ⟨ad205, e205, hx205_0⟩ := Kd.at_int (by repeat (first | (with_reducible exact HR204_0.out) | (with_reducible refine Kd.C_alloc ?_ _) | (with_reducible refine Kd.C_drewN ?_ _) | (with_reducible refine Kd.C_drew ?_) | exact HR204_0.out)) 0 p205 q205
                                      cases e205
                                      have qi205 : (0 < (rd_L5 t194 x10_2).length) = True := eq_true (by omega)
                                      (try rw [show ((0 : Int)).toNat = 0 from rfl] at hx205_0)
                                      (try rw [Addr.add_zero'] at hx205_0)
                                      replace p205 := eq_true p205
                                      replace q205 := eq_true q205
                                      go_wp2
                                      go_meet
                                      case rel => exact ⟨_, (((rd (rd_L5 t194 x10_2) 0) != (wrap64 (x10_2 - 1)))), (by first | rfl | (simp; done) | (simp [*]; done)), H', ⟨by have := HK1.out; have := HK2.out; first | omega | exact Nat.le_refl _⟩, ⟨by (with_reducible repeat (first | apply Kd.R_alloc | apply Kd.R_drewN | apply Kd.R_drew)); exact HO_6.out⟩, ⟨by (with_reducible repeat (first | apply Kd.S_alloc | apply Kd.S_drewN | apply Kd.S_drew)); exact HO_7.out⟩, ⟨by (with_reducible repeat (first | apply Kd.R_alloc | apply Kd.R_drewN | apply Kd.R_drew)); exact HO_8.out⟩, ⟨by (with_reducible repeat (first | apply Kd.S_alloc | apply Kd.S_drewN | apply Kd.S_drew)); exact HO_9.out⟩, ⟨by repeat (first | (with_reducible first | exact HB.out | apply below_alloc | apply pw_below_drewN | apply below_drew1) | exact HB.out)⟩⟩
                                    · rw [if_neg c41] at H
                                      exact absurd H (by simp)
                                  · rw [if_neg c40] at H
                                    have c40b0 : (((rd_L5 t194 x10_2).length : Int) == 1) = false := beq_eq_false_iff_ne.mpr c40
                                    have c40b1 : (((rd_L5 t194 x10_2).length : Int) != 1) = true := bne_iff_ne.mpr c40
                                    have H' := Aside0.mk H
                                    clear H
                                    obtain ⟨Ao45, co45, eo45⟩ := Kd.R_slice HO_6.out
                                    subst eo45
                                    have p200 : 0 ≤ (x10_2 : Int) := of_decide_eq_true (by first | (with_reducible assumption) | assumption)
                                    have q200 : x10_2 < (t185.length : Int) := of_decide_eq_true (by first | (with_reducible assumption) | assumption)
                                    obtain ⟨ad200, e200, hx200_0⟩ := Kd.at_bool (Kd.R_reads' HO_6.out).2.2 x10_2 p200 q200
                                    cases e200
                                    replace p200 := eq_true p200
                                    replace q200 := eq_true q200
                                    obtain ⟨Ao46, co46, eo46⟩ := Kd.R_slice HO_8.out
                                    subst eo46
                                    have p201 : 0 ≤ (x10_2 : Int) := of_decide_eq_true (by first | (with_reducible assumption) | assumption)
                                    have q201 : x10_2 < (t191.length : Int) := of_decide_eq_true (by first | (with_reducible assumption) | assumption)
                                    obtain ⟨ad201, e201, hx201_0⟩ := Kd.at_int (Kd.R_reads' HO_8.out).2.2 x10_2 p201 q201
                                    cases e201
                                    replace p201 := eq_true p201
                                    replace q201 := eq_true q201
                                    obtain ⟨Ao47, co47, eo47⟩ := Kd.S_slice HO_9.out
                                    subst eo47
                                    have p202 : 0 ≤ (x10_2 : Int) := of_decide_eq_true (by first | (with_reducible assumption) | assumption)
                                    have q202 : x10_2 < (t194.length : Int) := of_decide_eq_true (by first | (with_reducible assumption) | assumption)
                                    obtain ⟨ad202, A202_0, c202_0, e202, hx202_0, hl202_0, hi202_0⟩ := at_L5 (Kd.S_reads' HO_9.out).2.2 x10_2 p202 q202
                                    cases e202
                                    obtain ⟨ce202, hce202, hMe202, hcc202⟩ := Kd.S_get HO_9.out [] x10_2 p202 (by first | exact q202 | exact of_decide_eq_true (by first | (with_reducible assumption) | assumption) | (have e_ := (Kd.S_reads' HO_9.out).1; omega))
                                    obtain ⟨ve202_0, rfl, ge202_0⟩ := hMe202
                                    have hv202_0 := hcc202 0 _ rfl
                                    rw [Nat.add_zero, show ((Kd.slice 3 (Kd.int .i64))).sz = 1 from rfl, Nat.mul_one] at hv202_0
                                    replace hv202_0 := Option.some.inj (hv202_0.symm.trans hx202_0)
                                    rw [hv202_0] at ge202_0
                                    have HL202_0 := Aside0.mk (show Kd.R (Kd.int .i64) 3 _ _ _ _ (rd_L5 t194 x10_2) from ge202_0)
                                    clear hv202_0 ge202_0
                                    clear hcc202 hce202
                                    have HR202_0 := Aside0.mk hi202_0
                                    have HC202_0 := Aside0.mk hl202_0
                                    clear hi202_0 hl202_0
                                    replace p202 := eq_true p202
                                    replace q202 := eq_true q202
                                    have p203 : 0 ≤ (x10_2 : Int) := of_decide_eq_true (by first | (with_reducible assumption) | assumption)
                                    have q203 : x10_2 < (t194.length : Int) := of_decide_eq_true (by first | (with_reducible assumption) | assumption)
                                    obtain ⟨ad203, A203_0, c203_0, e203, hx203_0, hl203_0, hi203_0⟩ := at_L5 (Kd.S_reads' HO_9.out).2.2 x10_2 p203 q203
                                    obtain rfl : ad202 = ad203 := (by injection e203)
                                    obtain ⟨ce203, hce203, hMe203, hcc203⟩ := Kd.S_get HO_9.out [] x10_2 p203 (by first | exact q203 | exact of_decide_eq_true (by first | (with_reducible assumption) | assumption) | (have e_ := (Kd.S_reads' HO_9.out).1; omega))
                                    obtain ⟨ve203_0, rfl, ge203_0⟩ := hMe203
                                    have hv203_0 := hcc203 0 _ rfl
                                    rw [Nat.add_zero, show ((Kd.slice 3 (Kd.int .i64))).sz = 1 from rfl, Nat.mul_one] at hv203_0
                                    replace hv203_0 := Option.some.inj (hv203_0.symm.trans hx203_0)
                                    rw [hv203_0] at ge203_0
                                    have HL203_0 := Aside0.mk (show Kd.R (Kd.int .i64) 3 _ _ _ _ (rd_L5 t194 x10_2) from ge203_0)
                                    clear hv203_0 ge203_0
                                    clear hcc203 hce203
                                    have HR203_0 := Aside0.mk hi203_0
                                    have HC203_0 := Aside0.mk hl203_0
                                    clear hi203_0 hl203_0
                                    replace p203 := eq_true p203
                                    replace q203 := eq_true q203
                                    have ea_ := Option.some.inj (hx202_0.symm.trans hx203_0)
                                    injection ea_ with ea_ en_ ec_
                                    subst ea_
                                    subst ec_
                                    clear en_
                                    go_wp2
                                    go_meet
                                    case rel => exact ⟨_, (false), (by first | rfl | (simp; done) | (simp [*]; done)), H', ⟨by have := HK1.out; have := HK2.out; first | omega | exact Nat.le_refl _⟩, ⟨by (with_reducible repeat (first | apply Kd.R_alloc | apply Kd.R_drewN | apply Kd.R_drew)); exact HO_6.out⟩, ⟨by (with_reducible repeat (first | apply Kd.S_alloc | apply Kd.S_drewN | apply Kd.S_drew)); exact HO_7.out⟩, ⟨by (with_reducible repeat (first | apply Kd.R_alloc | apply Kd.R_drewN | apply Kd.R_drew)); exact HO_8.out⟩, ⟨by (with_reducible repeat (first | apply Kd.S_alloc | apply Kd.S_drewN | apply Kd.S_drew)); exact HO_9.out⟩, ⟨by repeat (first | (with_reducible first | exact HB.out | apply below_alloc | apply pw_below_drewN | apply below_drew1) | exact HB.out)⟩⟩
                              · rw [if_neg c35] at H
                                exact absurd H (by simp)
                            · rw [if_neg c34] at H
                              have c34b0 : ((rd t191 x10_2) == 0) = false := beq_eq_false_iff_ne.mpr c34
                              have c34b1 : ((rd t191 x10_2) != 0) = true := bne_iff_ne.mpr c34
                              have H' := Aside0.mk H
                              clear H
                              obtain ⟨Ao48, co48, eo48⟩ := Kd.R_slice HO_6.out
                              subst eo48
                              have p200 : 0 ≤ (x10_2 : Int) := of_decide_eq_true (by first | (with_reducible assumption) | assumption)
                              have q200 : x10_2 < (t185.length : Int) := of_decide_eq_true (by first | (with_reducible assumption) | assumption)
                              obtain ⟨ad200, e200, hx200_0⟩ := Kd.at_bool (Kd.R_reads' HO_6.out).2.2 x10_2 p200 q200
                              cases e200
                              replace p200 := eq_true p200
                              replace q200 := eq_true q200
                              obtain ⟨Ao49, co49, eo49⟩ := Kd.R_slice HO_8.out
                              subst eo49
                              have p201 : 0 ≤ (x10_2 : Int) := of_decide_eq_true (by first | (with_reducible assumption) | assumption)
                              have q201 : x10_2 < (t191.length : Int) := of_decide_eq_true (by first | (with_reducible assumption) | assumption)
                              obtain ⟨ad201, e201, hx201_0⟩ := Kd.at_int (Kd.R_reads' HO_8.out).2.2 x10_2 p201 q201
                              cases e201
                              replace p201 := eq_true p201
                              replace q201 := eq_true q201
                              go_wp2
                              go_meet
                              case rel => exact ⟨_, (true), (by first | rfl | (simp; done) | (simp [*]; done)), H', ⟨by have := HK1.out; have := HK2.out; first | omega | exact Nat.le_refl _⟩, ⟨by (with_reducible repeat (first | apply Kd.R_alloc | apply Kd.R_drewN | apply Kd.R_drew)); exact HO_6.out⟩, ⟨by (with_reducible repeat (first | apply Kd.S_alloc | apply Kd.S_drewN | apply Kd.S_drew)); exact HO_7.out⟩, ⟨by (with_reducible repeat (first | apply Kd.R_alloc | apply Kd.R_drewN | apply Kd.R_drew)); exact HO_8.out⟩, ⟨by (with_reducible repeat (first | apply Kd.S_alloc | apply Kd.S_drewN | apply Kd.S_drew)); exact HO_9.out⟩, ⟨by repeat (first | (with_reducible first | exact HB.out | apply below_alloc | apply pw_below_drewN | apply below_drew1) | exact HB.out)⟩⟩
                          · rw [if_neg c33] at H
                            exact absurd H (by simp)
                      · rw [if_neg c30] at H
                        exact absurd H (by simp)
                    · rw [if_neg c29] at H
                      exact absurd H (by simp)
                  case rest =>
                    clear HC28
                    try clear c1
                    try clear p1
                    try clear q1
                    try clear hx1
                    try clear c2
                    try clear p2
                    try clear q2
                    try clear hx2
                    try clear qi2
                    try clear c3
                    try clear c4
                    try clear c4b0
                    try clear c4b1
                    try clear c6
                    try clear p6
                    try clear c7
                    try clear c7b0
                    try clear c9
                    try clear c9b0
                    try clear c10
                    try clear c10b0
                    try clear c11
                    try clear c11b0
                    try clear c11b1
                    try clear c12
                    try clear c12b0
                    try clear c12b1
                    try clear c13
                    try clear c13b0
                    try clear c14
                    try clear c15
                    try clear c15b0
                    try clear c16
                    try clear c16b0
                    try clear c17
                    try clear c17b0
                    try clear c17b1
                    try clear p17
                    try clear q17
                    try clear hx17
                    try clear c18
                    try clear c18b0
                    try clear c18b1
                    try clear p18
                    try clear q18
                    try clear hx18
                    try clear c19
                    try clear c20
                    try clear p20
                    try clear q20
                    try clear hx20
                    try clear qi20
                    try clear c27
                    try clear c27b0
                    try clear c29
                    try clear c29b0
                    try clear c30
                    try clear c30b0
                    try clear c31
                    try clear c31b0
                    try clear c31b1
                    try clear c31b2
                    try clear c33
                    try clear c33b0
                    try clear c34
                    try clear c34b0
                    try clear c34b1
                    try clear c35
                    try clear c35b0
                    try clear c36
                    try clear c36b0
                    try clear c36b1
                    try clear c40
                    try clear c40b0
                    try clear c40b1
                    try clear c41
                    try clear c41b0
                    try clear c41b1
                    try clear hx179_0
                    try clear hx179_1
                    try clear hx179_2
                    try clear hx179_3
                    try clear hx179_4
                    try clear hx179_5
                    try clear hx179_6
                    try clear hx180_0
                    try clear hx180_1
                    try clear hx180_2
                    try clear hx180_3
                    try clear hx180_4
                    try clear hx180_5
                    try clear hx180_6
                    try clear hx181_0
                    try clear hx181_1
                    try clear hx181_2
                    try clear hx181_3
                    try clear hx181_4
                    try clear hx181_5
                    try clear hx181_6
                    try clear hx182_0
                    try clear hx182_1
                    try clear hx182_2
                    try clear hx182_3
                    try clear hx182_4
                    try clear hx182_5
                    try clear hx182_6
                    try clear hx183_0
                    try clear hx183_1
                    try clear hx183_2
                    try clear hx183_3
                    try clear hx183_4
                    try clear hx183_5
                    try clear hx183_6
                    try clear hx184_0
                    try clear hx184_1
                    try clear hx184_2
                    try clear hx184_3
                    try clear hx184_4
                    try clear hx184_5
                    try clear hx184_6
                    try clear hx200_0
                    try clear hx201_0
                    try clear hx202_0
                    try clear hx203_0
                    try clear hx204_0
                    try clear hx205_0
                    try clear p1
                    try clear p17
                    try clear p179
                    try clear p18
                    try clear p180
                    try clear p181
                    try clear p182
                    try clear p183
                    try clear p184
                    try clear p2
                    try clear p200
                    try clear p201
                    try clear p202
                    try clear p203
                    try clear p204
                    try clear p205
                    try clear p6
                    try clear q1
                    try clear q17
                    try clear q179
                    try clear q18
                    try clear q180
                    try clear q181
                    try clear q182
                    try clear q183
                    try clear q184
                    try clear q200
                    try clear q201
                    try clear q202
                    try clear q203
                    try clear q204
                    try clear q205
                    obtain ⟨kq, x128_27, rfl, HA, HJ27, HO_6, HO_7, HO_8, HO_9, HB⟩ := hcut
                    cases kq with
                    | zero => exact absurd HA.out (by simp [palinglaw14_GraphStraight.j3])
                    | succ kj27 =>
                      have H := HA.out
                      clear HA
                      simp only [palinglaw14_GraphStraight.j3] at H
                      by_cases c50 : x128_27 = true
                      · subst c50
                        have H1 : (some false) = some r := by rw [if_pos rfl] at H; exact H
                        clear H
                        have H := H1
                        clear H1
                        obtain rfl := Option.some.inj H
                        go_wp2
                        go_ret
                        exact ⟨by first | rfl | (simp [errW_none, errW_some] <;> rfl) | (simp [*, errW_none, errW_some] <;> rfl), by repeat (first | (with_reducible first | exact HB.out | apply below_alloc | apply pw_below_drewN | apply below_drew1) | exact HB.out)⟩
                      · replace c50 := Bool.eq_false_iff.mpr c50
                        subst c50
                        have H1 : (palinglaw14_GraphStraight.l2 kj27 l0 x4_1 t185 t188 t191 t194 x10_2 0) = some r := by rw [if_neg (show ¬ (false = true) by decide)] at H; exact H
                        clear H
                        have H := H1
                        clear H1
                        have H' := Aside0.mk H
                        clear H
                        go_wp2
                        go_loopg [11] kj27 (fun kq v11 w' => ∃ (x11_4 : Int), v11 = .int .i64 x11_4 ∧ Aside0 (palinglaw14_GraphStraight.l2 kq l0 x4_1 t185 t188 t191 t194 x10_2 x11_4 = some r) ∧ Aside0 (kq ≤ kj27) ∧ Aside0 (Kd.R Kd.bool 4 w' w.heap.size (fun _ => True) v186 t185) ∧ Aside0 (Kd.S (Kd.slice 4 Kd.bool) 25 w' w.heap.size (fun k_ => some k_ ≠ (v186 : Value).ownBlock) v189 t188) ∧ Aside0 (Kd.R (Kd.int .i64) 3 w' w.heap.size (fun _ => True) v192 t191) ∧ Aside0 (Kd.S (Kd.slice 3 (Kd.int .i64)) 34 w' w.heap.size (fun k_ => some k_ ≠ (v192 : Value).ownBlock) v195 t194) ∧ Aside0 (Below w.heap.size w w'))
                        case atStart => exact ⟨(0), (by first | rfl | (simp; done) | (simp [*]; done)), H', ⟨Nat.le_refl _⟩, ⟨by (with_reducible repeat (first | apply Kd.R_alloc | apply Kd.R_drewN | apply Kd.R_drew)); exact HO_6.out⟩, ⟨by (with_reducible repeat (first | apply Kd.S_alloc | apply Kd.S_drewN | apply Kd.S_drew)); exact HO_7.out⟩, ⟨by (with_reducible repeat (first | apply Kd.R_alloc | apply Kd.R_drewN | apply Kd.R_drew)); exact HO_8.out⟩, ⟨by (with_reducible repeat (first | apply Kd.S_alloc | apply Kd.S_drewN | apply Kd.S_drew)); exact HO_9.out⟩, ⟨by repeat (first | (with_reducible first | exact HB.out | apply below_alloc | apply pw_below_drewN | apply below_drew1) | exact HB.out)⟩⟩
                        case round =>
                          clear H'
                          try clear c1
                          try clear p1
                          try clear q1
                          try clear hx1
                          try clear c2
                          try clear p2
                          try clear q2
                          try clear hx2
                          try clear qi2
                          try clear c3
                          try clear c4
                          try clear c4b0
                          try clear c4b1
                          try clear c5
                          try clear c6
                          try clear p6
                          try clear c7
                          try clear c7b0
                          try clear c9
                          try clear c9b0
                          try clear c10
                          try clear c10b0
                          try clear c11
                          try clear c11b0
                          try clear c11b1
                          try clear c12
                          try clear c12b0
                          try clear c12b1
                          try clear c13
                          try clear c13b0
                          try clear c14
                          try clear c15
                          try clear c15b0
                          try clear c16
                          try clear c16b0
                          try clear c17
                          try clear c17b0
                          try clear c17b1
                          try clear p17
                          try clear q17
                          try clear hx17
                          try clear c18
                          try clear c18b0
                          try clear c18b1
                          try clear p18
                          try clear q18
                          try clear hx18
                          try clear c19
                          try clear c20
                          try clear p20
                          try clear q20
                          try clear hx20
                          try clear qi20
                          try clear c27
                          try clear c27b0
                          try clear c29
                          try clear c29b0
                          try clear c30
                          try clear c30b0
                          try clear c31
                          try clear c31b0
                          try clear c31b1
                          try clear c31b2
                          try clear c33
                          try clear c33b0
                          try clear c34
                          try clear c34b0
                          try clear c34b1
                          try clear c35
                          try clear c35b0
                          try clear c36
                          try clear c36b0
                          try clear c36b1
                          try clear c40
                          try clear c40b0
                          try clear c40b1
                          try clear c41
                          try clear c41b0
                          try clear c41b1
                          try clear c50
                          try clear hx179_0
                          try clear hx179_1
                          try clear hx179_2
                          try clear hx179_3
                          try clear hx179_4
                          try clear hx179_5
                          try clear hx179_6
                          try clear hx180_0
                          try clear hx180_1
                          try clear hx180_2
                          try clear hx180_3
                          try clear hx180_4
                          try clear hx180_5
                          try clear hx180_6
                          try clear hx181_0
                          try clear hx181_1
                          try clear hx181_2
                          try clear hx181_3
                          try clear hx181_4
                          try clear hx181_5
                          try clear hx181_6
                          try clear hx182_0
                          try clear hx182_1
                          try clear hx182_2
                          try clear hx182_3
                          try clear hx182_4
                          try clear hx182_5
                          try clear hx182_6
                          try clear hx183_0
                          try clear hx183_1
                          try clear hx183_2
                          try clear hx183_3
                          try clear hx183_4
                          try clear hx183_5
                          try clear hx183_6
                          try clear hx184_0
                          try clear hx184_1
                          try clear hx184_2
                          try clear hx184_3
                          try clear hx184_4
                          try clear hx184_5
                          try clear hx184_6
                          try clear hx200_0
                          try clear hx201_0
                          try clear hx202_0
                          try clear hx203_0
                          try clear hx204_0
                          try clear hx205_0
                          try clear p1
                          try clear p17
                          try clear p179
                          try clear p18
                          try clear p180
                          try clear p181
                          try clear p182
                          try clear p183
                          try clear p184
                          try clear p2
                          try clear p20
                          try clear p200
                          try clear p201
                          try clear p202
                          try clear p203
                          try clear p204
                          try clear p205
                          try clear p6
                          try clear q1
                          try clear q17
                          try clear q179
                          try clear q18
                          try clear q180
                          try clear q181
                          try clear q182
                          try clear q183
                          try clear q184
                          try clear q2
                          try clear q20
                          try clear q200
                          try clear q201
                          try clear q202
                          try clear q203
                          try clear q204
                          try clear q205
                          obtain ⟨x11_4, rfl, HA, HK4, HO_6, HO_7, HO_8, HO_9, HB⟩ := hrel
                          cases gk with
                          | zero => exact absurd HA.out (by simp [palinglaw14_GraphStraight.l2])
                          | succ k4 =>
                            have H := HA.out
                            clear HA
                            simp only [palinglaw14_GraphStraight.l2] at H
                            by_cases c51 : x11_4 < (l0.length : Int)
                            · rw [if_pos c51] at H
                              have c51b0 : decide (x11_4 < (l0.length : Int)) = true := decide_eq_true c51
                              clear c51
                              by_cases c52 : 0 ≤ x10_2
                              · rw [if_pos c52] at H
                                have c52b0 : decide (0 ≤ x10_2) = true := decide_eq_true c52
                                clear c52
                                by_cases c53 : x10_2 < (t188.length : Int)
                                · rw [if_pos c53] at H
                                  have c53b0 : decide (x10_2 < (t188.length : Int)) = true := decide_eq_true c53
                                  clear c53
                                  by_cases c54 : 0 ≤ x11_4
                                  · rw [if_pos c54] at H
                                    have c54b0 : decide (0 ≤ x11_4) = true := decide_eq_true c54
                                    clear c54
                                    by_cases c55 : x11_4 < ((rd_L7 t188 x10_2).length : Int)
                                    · rw [if_pos c55] at H
                                      have c55b0 : decide (x11_4 < ((rd_L7 t188 x10_2).length : Int)) = true := decide_eq_true c55
                                      clear c55
                                      by_cases c56 : x11_4 ≤ x10_2
                                      · rw [if_pos c56] at H
                                        have c56b0 : decide (x11_4 ≤ x10_2) = true := decide_eq_true c56
                                        clear c56
                                        by_cases c57 : ((rdOf false (rd_L7 t188 x10_2) x11_4) != (decide (x10_2 ≤ x4_1))) = true
                                        · rw [if_pos c57] at H
                                          have c57b0 : ((rdOf false (rd_L7 t188 x10_2) x11_4) != (decide (x10_2 ≤ x4_1))) = true := c57
                                          (try (have c57b1 : decide ((rdOf false (rd_L7 t188 x10_2) x11_4) = (decide (x10_2 ≤ x4_1))) = false := by simpa using c57))
                                          (try (have c57b2 : ((rdOf false (rd_L7 t188 x10_2) x11_4) == (decide (x10_2 ≤ x4_1))) = false := by simpa using c57))
                                          (try (have c57b3 : ¬ ((rdOf false (rd_L7 t188 x10_2) x11_4) = (decide (x10_2 ≤ x4_1))) := by simpa using c57))
                                          clear c57
                                          obtain rfl := Option.some.inj H
                                          obtain ⟨Ao58, co58, eo58⟩ := Kd.S_slice HO_7.out
                                          subst eo58
                                          have p206 : 0 ≤ (x10_2 : Int) := of_decide_eq_true (by first | (with_reducible assumption) | assumption)
                                          have q206 : x10_2 < (t188.length : Int) := of_decide_eq_true (by first | (with_reducible assumption) | assumption)
                                          obtain ⟨ad206, A206_0, c206_0, e206, hx206_0, hl206_0, hi206_0⟩ := at_L7 (Kd.S_reads' HO_7.out).2.2 x10_2 p206 q206
                                          cases e206
                                          obtain ⟨ce206, hce206, hMe206, hcc206⟩ := Kd.S_get HO_7.out [] x10_2 p206 (by first | exact q206 | exact of_decide_eq_true (by first | (with_reducible assumption) | assumption) | (have e_ := (Kd.S_reads' HO_7.out).1; omega))
                                          obtain ⟨ve206_0, rfl, ge206_0⟩ := hMe206
                                          have hv206_0 := hcc206 0 _ rfl
                                          rw [Nat.add_zero, show ((Kd.slice 4 Kd.bool)).sz = 1 from rfl, Nat.mul_one] at hv206_0
                                          replace hv206_0 := Option.some.inj (hv206_0.symm.trans hx206_0)
                                          rw [hv206_0] at ge206_0
                                          have HL206_0 := Aside0.mk (show Kd.R Kd.bool 4 _ _ _ _ (rd_L7 t188 x10_2) from ge206_0)
                                          clear hv206_0 ge206_0
                                          clear hcc206 hce206
                                          have HR206_0 := Aside0.mk hi206_0
                                          have HC206_0 := Aside0.mk hl206_0
                                          clear hi206_0 hl206_0
                                          replace p206 := eq_true p206
                                          replace q206 := eq_true q206
                                          have p207 : 0 ≤ (x11_4 : Int) := of_decide_eq_true (by first | (with_reducible assumption) | assumption)
                                          have q207 : x11_4 < ((rd_L7 t188 x10_2).length : Int) := of_decide_eq_true (by first | (with_reducible assumption) | assumption)
                                          obtain ⟨ad207, e207, hx207_0⟩ := Kd.at_bool (by repeat (first | (with_reducible exact HR206_0.out) | (with_reducible refine Kd.C_alloc ?_ _) | (with_reducible refine Kd.C_drewN ?_ _) | (with_reducible refine Kd.C_drew ?_) | exact HR206_0.out)) x11_4 p207 q207
                                          cases e207
                                          replace p207 := eq_true p207
                                          replace q207 := eq_true q207
                                          go_wp2
                                          go_ret
                                          exact ⟨by first | rfl | (simp [errW_none, errW_some] <;> rfl) | (simp [*, errW_none, errW_some] <;> rfl), by repeat (first | (with_reducible first | exact HB.out | apply below_alloc | apply pw_below_drewN | apply below_drew1) | exact HB.out)⟩
                                        · rw [if_neg c57] at H
                                          have c57b0 : ((rdOf false (rd_L7 t188 x10_2) x11_4) != (decide (x10_2 ≤ x4_1))) = false := by simpa using c57
                                          (try (have c57b1 : decide ((rdOf false (rd_L7 t188 x10_2) x11_4) = (decide (x10_2 ≤ x4_1))) = true := by simpa using c57))
                                          (try (have c57b2 : ((rdOf false (rd_L7 t188 x10_2) x11_4) == (decide (x10_2 ≤ x4_1))) = true := by simpa using c57))
                                          clear c57
                                          have H' := Aside0.mk H
                                          clear H
                                          obtain ⟨Ao59, co59, eo59⟩ := Kd.S_slice HO_7.out
                                          subst eo59
                                          have p206 : 0 ≤ (x10_2 : Int) := of_decide_eq_true (by first | (with_reducible assumption) | assumption)
                                          have q206 : x10_2 < (t188.length : Int) := of_decide_eq_true (by first | (with_reducible assumption) | assumption)
                                          obtain ⟨ad206, A206_0, c206_0, e206, hx206_0, hl206_0, hi206_0⟩ := at_L7 (Kd.S_reads' HO_7.out).2.2 x10_2 p206 q206
                                          cases e206
                                          obtain ⟨ce206, hce206, hMe206, hcc206⟩ := Kd.S_get HO_7.out [] x10_2 p206 (by first | exact q206 | exact of_decide_eq_true (by first | (with_reducible assumption) | assumption) | (have e_ := (Kd.S_reads' HO_7.out).1; omega))
                                          obtain ⟨ve206_0, rfl, ge206_0⟩ := hMe206
                                          have hv206_0 := hcc206 0 _ rfl
                                          rw [Nat.add_zero, show ((Kd.slice 4 Kd.bool)).sz = 1 from rfl, Nat.mul_one] at hv206_0
                                          replace hv206_0 := Option.some.inj (hv206_0.symm.trans hx206_0)
                                          rw [hv206_0] at ge206_0
                                          have HL206_0 := Aside0.mk (show Kd.R Kd.bool 4 _ _ _ _ (rd_L7 t188 x10_2) from ge206_0)
                                          clear hv206_0 ge206_0
                                          clear hcc206 hce206
                                          have HR206_0 := Aside0.mk hi206_0
                                          have HC206_0 := Aside0.mk hl206_0
                                          clear hi206_0 hl206_0
                                          replace p206 := eq_true p206
                                          replace q206 := eq_true q206
                                          have p207 : 0 ≤ (x11_4 : Int) := of_decide_eq_true (by first | (with_reducible assumption) | assumption)
                                          have q207 : x11_4 < ((rd_L7 t188 x10_2).length : Int) := of_decide_eq_true (by first | (with_reducible assumption) | assumption)
                                          obtain ⟨ad207, e207, hx207_0⟩ := Kd.at_bool (by repeat (first | (with_reducible exact HR206_0.out) | (with_reducible refine Kd.C_alloc ?_ _) | (with_reducible refine Kd.C_drewN ?_ _) | (with_reducible refine Kd.C_drew ?_) | exact HR206_0.out)) x11_4 p207 q207
                                          cases e207
                                          replace p207 := eq_true p207
                                          replace q207 := eq_true q207
                                          go_wp2
                                          go_roundg k4
                                          case measure => have := HK1.out; have := HK2.out; have := HJ27.out; have := HK4.out; omega
                                          case rel => exact ⟨(wrap64 (x11_4 + 1)), (by first | rfl | (simp; done) | (simp [*]; done)), H', ⟨by have := HK1.out; have := HK2.out; have := HJ27.out; have := HK4.out; omega⟩, ⟨by (with_reducible repeat (first | apply Kd.R_alloc | apply Kd.R_drewN | apply Kd.R_drew)); exact HO_6.out⟩, ⟨by (with_reducible repeat (first | apply Kd.S_alloc | apply Kd.S_drewN | apply Kd.S_drew)); exact HO_7.out⟩, ⟨by (with_reducible repeat (first | apply Kd.R_alloc | apply Kd.R_drewN | apply Kd.R_drew)); exact HO_8.out⟩, ⟨by (with_reducible repeat (first | apply Kd.S_alloc | apply Kd.S_drewN | apply Kd.S_drew)); exact HO_9.out⟩, ⟨by repeat (first | (with_reducible first | exact HB.out | apply below_alloc | apply pw_below_drewN | apply below_drew1) | exact HB.out)⟩⟩
                                      · rw [if_neg c56] at H
                                        have c56b0 : decide (x11_4 ≤ x10_2) = false := decide_eq_false c56
                                        clear c56
                                        by_cases c60 : ((rdOf false (rd_L7 t188 x10_2) x11_4) != false) = true
                                        · rw [if_pos c60] at H
                                          have c60b0 : ((rdOf false (rd_L7 t188 x10_2) x11_4) != false) = true := c60
                                          (try (have c60b1 : decide ((rdOf false (rd_L7 t188 x10_2) x11_4) = false) = false := by simpa using c60))
                                          (try (have c60b2 : ((rdOf false (rd_L7 t188 x10_2) x11_4) == false) = false := by simpa using c60))
                                          (try (have c60b3 : ¬ ((rdOf false (rd_L7 t188 x10_2) x11_4) = false) := by simpa using c60))
                                          clear c60
                                          obtain rfl := Option.some.inj H
                                          obtain ⟨Ao61, co61, eo61⟩ := Kd.S_slice HO_7.out
                                          subst eo61
                                          have p206 : 0 ≤ (x10_2 : Int) := of_decide_eq_true (by first | (with_reducible assumption) | assumption)
                                          have q206 : x10_2 < (t188.length : Int) := of_decide_eq_true (by first | (with_reducible assumption) | assumption)
                                          obtain ⟨ad206, A206_0, c206_0, e206, hx206_0, hl206_0, hi206_0⟩ := at_L7 (Kd.S_reads' HO_7.out).2.2 x10_2 p206 q206
                                          cases e206
                                          obtain ⟨ce206, hce206, hMe206, hcc206⟩ := Kd.S_get HO_7.out [] x10_2 p206 (by first | exact q206 | exact of_decide_eq_true (by first | (with_reducible assumption) | assumption) | (have e_ := (Kd.S_reads' HO_7.out).1; omega))
                                          obtain ⟨ve206_0, rfl, ge206_0⟩ := hMe206
                                          have hv206_0 := hcc206 0 _ rfl
                                          rw [Nat.add_zero, show ((Kd.slice 4 Kd.bool)).sz = 1 from rfl, Nat.mul_one] at hv206_0
                                          replace hv206_0 := Option.some.inj (hv206_0.symm.trans hx206_0)
                                          rw [hv206_0] at ge206_0
                                          have HL206_0 := Aside0.mk (show Kd.R Kd.bool 4 _ _ _ _ (rd_L7 t188 x10_2) from ge206_0)
                                          clear hv206_0 ge206_0
                                          clear hcc206 hce206
                                          have HR206_0 := Aside0.mk hi206_0
                                          have HC206_0 := Aside0.mk hl206_0
                                          clear hi206_0 hl206_0
                                          replace p206 := eq_true p206
                                          replace q206 := eq_true q206
                                          have p207 : 0 ≤ (x11_4 : Int) := of_decide_eq_true (by first | (with_reducible assumption) | assumption)
                                          have q207 : x11_4 < ((rd_L7 t188 x10_2).length : Int) := of_decide_eq_true (by first | (with_reducible assumption) | assumption)
                                          obtain ⟨ad207, e207, hx207_0⟩ := Kd.at_bool (by repeat (first | (with_reducible exact HR206_0.out) | (with_reducible refine Kd.C_alloc ?_ _) | (with_reducible refine Kd.C_drewN ?_ _) | (with_reducible refine Kd.C_drew ?_) | exact HR206_0.out)) x11_4 p207 q207
                                          cases e207
                                          replace p207 := eq_true p207
                                          replace q207 := eq_true q207
                                          go_wp2
                                          go_ret
                                          exact ⟨by first | rfl | (simp [errW_none, errW_some] <;> rfl) | (simp [*, errW_none, errW_some] <;> rfl), by repeat (first | (with_reducible first | exact HB.out | apply below_alloc | apply pw_below_drewN | apply below_drew1) | exact HB.out)⟩
                                        · rw [if_neg c60] at H
                                          have c60b0 : ((rdOf false (rd_L7 t188 x10_2) x11_4) != false) = false := by simpa using c60
                                          (try (have c60b1 : decide ((rdOf false (rd_L7 t188 x10_2) x11_4) = false) = true := by simpa using c60))
                                          (try (have c60b2 : ((rdOf false (rd_L7 t188 x10_2) x11_4) == false) = true := by simpa using c60))
                                          clear c60
                                          have H' := Aside0.mk H
                                          clear H
                                          obtain ⟨Ao62, co62, eo62⟩ := Kd.S_slice HO_7.out
                                          subst eo62
                                          have p206 : 0 ≤ (x10_2 : Int) := of_decide_eq_true (by first | (with_reducible assumption) | assumption)
                                          have q206 : x10_2 < (t188.length : Int) := of_decide_eq_true (by first | (with_reducible assumption) | assumption)
                                          obtain ⟨ad206, A206_0, c206_0, e206, hx206_0, hl206_0, hi206_0⟩ := at_L7 (Kd.S_reads' HO_7.out).2.2 x10_2 p206 q206
                                          cases e206
                                          obtain ⟨ce206, hce206, hMe206, hcc206⟩ := Kd.S_get HO_7.out [] x10_2 p206 (by first | exact q206 | exact of_decide_eq_true (by first | (with_reducible assumption) | assumption) | (have e_ := (Kd.S_reads' HO_7.out).1; omega))
                                          obtain ⟨ve206_0, rfl, ge206_0⟩ := hMe206
                                          have hv206_0 := hcc206 0 _ rfl
                                          rw [Nat.add_zero, show ((Kd.slice 4 Kd.bool)).sz = 1 from rfl, Nat.mul_one] at hv206_0
                                          replace hv206_0 := Option.some.inj (hv206_0.symm.trans hx206_0)
                                          rw [hv206_0] at ge206_0
                                          have HL206_0 := Aside0.mk (show Kd.R Kd.bool 4 _ _ _ _ (rd_L7 t188 x10_2) from ge206_0)
                                          clear hv206_0 ge206_0
                                          clear hcc206 hce206
                                          have HR206_0 := Aside0.mk hi206_0
                                          have HC206_0 := Aside0.mk hl206_0
                                          clear hi206_0 hl206_0
                                          replace p206 := eq_true p206
                                          replace q206 := eq_true q206
                                          have p207 : 0 ≤ (x11_4 : Int) := of_decide_eq_true (by first | (with_reducible assumption) | assumption)
                                          have q207 : x11_4 < ((rd_L7 t188 x10_2).length : Int) := of_decide_eq_true (by first | (with_reducible assumption) | assumption)
                                          obtain ⟨ad207, e207, hx207_0⟩ := Kd.at_bool (by repeat (first | (with_reducible exact HR206_0.out) | (with_reducible refine Kd.C_alloc ?_ _) | (with_reducible refine Kd.C_drewN ?_ _) | (with_reducible refine Kd.C_drew ?_) | exact HR206_0.out)) x11_4 p207 q207
                                          cases e207
                                          replace p207 := eq_true p207
                                          replace q207 := eq_true q207
                                          go_wp2
                                          go_roundg k4
                                          case measure => have := HK1.out; have := HK2.out; have := HJ27.out; have := HK4.out; omega
                                          case rel => exact ⟨(wrap64 (x11_4 + 1)), (by first | rfl | (simp; done) | (simp [*]; done)), H', ⟨by have := HK1.out; have := HK2.out; have := HJ27.out; have := HK4.out; omega⟩, ⟨by (with_reducible repeat (first | apply Kd.R_alloc | apply Kd.R_drewN | apply Kd.R_drew)); exact HO_6.out⟩, ⟨by (with_reducible repeat (first | apply Kd.S_alloc | apply Kd.S_drewN | apply Kd.S_drew)); exact HO_7.out⟩, ⟨by (with_reducible repeat (first | apply Kd.R_alloc | apply Kd.R_drewN | apply Kd.R_drew)); exact HO_8.out⟩, ⟨by (with_reducible repeat (first | apply Kd.S_alloc | apply Kd.S_drewN | apply Kd.S_drew)); exact HO_9.out⟩, ⟨by repeat (first | (with_reducible first | exact HB.out | apply below_alloc | apply pw_below_drewN | apply below_drew1) | exact HB.out)⟩⟩
                                    · rw [if_neg c55] at H
                                      exact absurd H (by simp)
                                  · rw [if_neg c54] at H
                                    exact absurd H (by simp)
                                · rw [if_neg c53] at H
                                  exact absurd H (by simp)
                              · rw [if_neg c52] at H
                                exact absurd H (by simp)
                            · rw [if_neg c51] at H
                              have c51b0 : decide (x11_4 < (l0.length : Int)) = false := decide_eq_false c51
                              clear c51
                              have H' := Aside0.mk H
                              clear H
                              go_wp2
                              go_roundg k4
                              case measure => have := HK1.out; have := HK2.out; have := HJ27.out; have := HK4.out; omega
                              case rel => exact ⟨(wrap64 (x10_2 + 1)), (by first | rfl | (simp; done) | (simp [*]; done)), H', ⟨by have := HK1.out; have := HK2.out; have := HJ27.out; have := HK4.out; omega⟩, ⟨by (with_reducible repeat (first | apply Kd.R_alloc | apply Kd.R_drewN | apply Kd.R_drew)); exact HO_6.out⟩, ⟨by (with_reducible repeat (first | apply Kd.S_alloc | apply Kd.S_drewN | apply Kd.S_drew)); exact HO_7.out⟩, ⟨by (with_reducible repeat (first | apply Kd.R_alloc | apply Kd.R_drewN | apply Kd.R_drew)); exact HO_8.out⟩, ⟨by (with_reducible repeat (first | apply Kd.S_alloc | apply Kd.S_drewN | apply Kd.S_drew)); exact HO_9.out⟩, ⟨by repeat (first | (with_reducible first | exact HB.out | apply below_alloc | apply pw_below_drewN | apply below_drew1) | exact HB.out)⟩⟩
                · rw [if_neg c27] at H
                  have c27b0 : decide (x10_2 < (l0.length : Int)) = false := decide_eq_false c27
                  clear c27
                  replace H := Option.bind_eq_some_iff.mp H
                  obtain ⟨t197, A630, H⟩ := H
                  replace H : (some ((t197.length : Int) == 0)) = some r := H
                  have A63 := Aside0.mk A630
                  clear A630
                  obtain rfl := Option.some.inj H
                  go_wp2_with (first | ((with_reducible refine gate_callee (f := 16) rfl ?_); refine goesL_ (some 152) rfl rfl Tryd.func16 (by kernel_rfl) rfl #[.slice A0 l0.length c0] rfl (by (try simp only [List.map_toArray, List.map_cons, List.map_nil]); first | done | rfl | (simp only [List.length_drop, List.length_take]; rfl)) ?_; (with_reducible refine (graph_Loops.calls k2 _ _ l0 t197 _ ?side1 ?side2 A63.out (GlobOK.step HGL.out (by repeat (first | (with_reducible first | exact HB.out | apply below_alloc | apply pw_below_drewN | apply below_drew1) | exact HB.out)))).mono ?_); (case side1 => repeat (first | exact (Kd.C_below HR0.out HB.out) | (with_reducible refine Kd.C_alloc ?_ _) | (with_reducible refine Kd.C_drewN ?_ _) | (with_reducible refine Kd.C_drew ?_))); (case side2 => exact HC0.out); rintro e w64 ⟨v198, rfl, ho0, hb⟩; refine ⟨_, rfl, ?_⟩; have n0_ := Aside0.mk (Kd.R_below (by (with_reducible repeat (first | apply Kd.R_alloc | apply Kd.R_drewN | apply Kd.R_drew)); exact HO_6.out) hb); have n1_ := Aside0.mk (Kd.S_below (by (with_reducible repeat (first | apply Kd.S_alloc | apply Kd.S_drewN | apply Kd.S_drew)); exact HO_7.out) hb); have n2_ := Aside0.mk (Kd.R_below (by (with_reducible repeat (first | apply Kd.R_alloc | apply Kd.R_drewN | apply Kd.R_drew)); exact HO_8.out) hb); have n3_ := Aside0.mk (Kd.S_elder' (by (with_reducible repeat (first | apply Kd.S_alloc | apply Kd.S_drewN | apply Kd.S_drew)); exact HO_9.out) (Kd.S_base ho0) hb); have n4_ := Aside0.mk (Kd.S_lower (Kd.S_new' (Kd.S_new' ho0 (Kd.R_lt (by (with_reducible repeat (first | apply Kd.R_alloc | apply Kd.R_drewN | apply Kd.R_drew)); exact HO_8.out))) (Kd.S_lt (by (with_reducible repeat (first | apply Kd.S_alloc | apply Kd.S_drewN | apply Kd.S_drew)); exact HO_9.out))) (below_size (by repeat (first | (with_reducible first | exact HB.out | apply below_alloc | apply pw_below_drewN | apply below_drew1) | exact HB.out)))); have n5_ := Aside0.mk (below_step (by repeat (first | (with_reducible first | exact HB.out | apply below_alloc | apply pw_below_drewN | apply below_drew1) | exact HB.out)) hb); clear HO_6; clear HO_7; clear HO_8; clear HO_9; clear HB; have HO_6 := n0_; have HO_7 := n1_; have HO_8 := n2_; have HO_9 := n3_; have HO199 := n4_; have HB := n5_; clear n0_ n1_ n2_ n3_ n4_ n5_; (try clear hb); (try clear hb2); (try clear hk); (try clear hi); (try clear ho0); obtain ⟨Ao65, co65, eo65⟩ := Kd.S_slice HO199.out; subst eo65))
                  go_ret
                  exact ⟨by first | rfl | (simp [errW_none, errW_some] <;> rfl) | (simp [*, errW_none, errW_some] <;> rfl), by repeat (first | (with_reducible first | exact HB.out | apply below_alloc | apply pw_below_drewN | apply below_drew1) | exact HB.out)⟩
  · replace c3 := Bool.eq_false_iff.mpr c3
    subst c3
    have H1 : (some false) = some r := by rw [if_neg (show ¬ (false = true) by decide)] at H; exact H
    clear H
    have H := H1
    clear H1
    obtain rfl := Option.some.inj H
    go_enter Tryd.func6, Tryd.ntmps6
    go_wp2_with (first | ((with_reducible refine gate_callee (f := 7) rfl ?_); refine goesL_ (some 12) rfl rfl Tryd.func7 (by kernel_rfl) rfl #[] rfl (by (try simp only [List.map_toArray, List.map_cons, List.map_nil]); first | done | rfl | (simp only [List.length_drop, List.length_take]; rfl)) ?_; (with_reducible refine (palinglaw14_awake.calls k  false _ A2.out (GlobOK.step HGL.out (by repeat (first | (with_reducible first | exact HB.out | apply below_alloc | apply pw_below_drewN | apply below_drew1) | exact HB.out)))).mono ?_); rintro e w66 ⟨rfl, hb⟩; refine ⟨_, rfl, ?_⟩; have n0_ := Aside0.mk (below_step (by repeat (first | (with_reducible first | exact HB.out | apply below_alloc | apply pw_below_drewN | apply below_drew1) | exact HB.out)) hb); clear HB; have HB := n0_; clear n0_; (try clear hb); (try clear hb2); (try clear hk); (try clear hi)))
    go_ret
    exact ⟨by first | rfl | (simp [errW_none, errW_some] <;> rfl) | (simp [*, errW_none, errW_some] <;> rfl), by repeat (first | (with_reducible first | exact HB.out | apply below_alloc | apply pw_below_drewN | apply below_drew1) | exact HB.out)⟩

end Go.Proofs.YtoncneglplglhaaDoor.PGraphStraight
