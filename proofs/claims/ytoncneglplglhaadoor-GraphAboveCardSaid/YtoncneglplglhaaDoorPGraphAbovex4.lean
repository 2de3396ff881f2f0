-- Written by print2.py over the kit's printer. Not trusted: Lean checks it.
import Derived.Test.YtoncneglplglhaaDoorPGraphAbovex0
import Derived.Test.YtoncneglplglhaaDoorPGraphAbovex2
import Derived.Test.YtoncneglplglhaaDoorPGraphAbovex3
import Derived.Test.YtoncneglplglhaaDoorPGraphAbovehgdom
import Derived.Test.YtoncneglplglhaaDoorPGraphAbovehgloops
import Derived.Test.YtoncneglplglhaaDoorPGraphAbovehgreach
namespace Go.Proofs.YtoncneglplglhaaDoor.PGraphAbove
open Go.RowKit Go.Proofs.YtoncneglplglhaaDoorW.PrintWords Go.Proofs.YtoncneglplglhaaDoorW.PrintLast Go.Proofs.YtoncneglplglhaaDoorW.PrintMore
attribute [local go_sem] max2_int min2_int max_two min_two max_three min_three max_four min_four   -- for this text's walks alone
set_option linter.unusedVariables false
set_option linter.unusedSimpArgs false

/-! ### palinglaw14_GraphAbove: function 5 -/
mutual
def palinglaw14_GraphAbove.j0 : Nat → List (S37) → Bool → Option (Bool)
  | 0, _, _ => none
  | k + 1, x0, x26 => if x26 = true then (some true) else ((graph_Reach.f k x0).bind fun t179 => ((graph_Dominates.f k x0).bind fun t182 => ((graph_Preds.f k x0).bind fun t185 => (palinglaw14_GraphAbove.l0 k x0 t179 t182 t185 0))))
def palinglaw14_GraphAbove.l0 : Nat → List (S37) → List Bool → List (List Bool) → List (List Int) → Int → Option (Bool)
  | 0, _, _, _, _, _ => none
  | k + 1, x0, x4, x5, x6, x7 => if x7 < (x0.length : Int) then (if 0 ≤ x7 then (if x7 < (x5.length : Int) then (if 0 < ((rd_L7 x5 x7).length : Int) then (if x7 < (x4.length : Int) then (if ((rdOf false (rd_L7 x5 x7) 0) != (rdOf false x4 x7)) = true then (palinglaw14_GraphAbove.j2 k x0 x4 x5 x6 x7 true) else (if x7 < ((rd_L7 x5 x7).length : Int) then (if ((rdOf false (rd_L7 x5 x7) x7) != (rdOf false x4 x7)) = true then (palinglaw14_GraphAbove.j2 k x0 x4 x5 x6 x7 true) else (if x7 = 0 then (palinglaw14_GraphAbove.j2 k x0 x4 x5 x6 x7 ((rdOf false x4 x7) != true)) else (if x7 < (x6.length : Int) then (palinglaw14_GraphAbove.j2 k x0 x4 x5 x6 x7 ((rdOf false x4 x7) != (decide (((rd_L5 x6 x7).length : Int) > 0)))) else (none)))) else (none))) else (none)) else (none)) else (none)) else (none)) else ((graph_Loops.f k x0).bind fun t212 => (palinglaw14_GraphAbove.l3 k x5 t212 0))
def palinglaw14_GraphAbove.j2 : Nat → List (S37) → List Bool → List (List Bool) → List (List Int) → Int → Bool → Option (Bool)
  | 0, _, _, _, _, _, _ => none
  | k + 1, x0, x4, x5, x6, x7, x80 => if x80 = true then (some false) else (palinglaw14_GraphAbove.l1 k x0 x4 x5 x6 x7 0)
def palinglaw14_GraphAbove.l1 : Nat → List (S37) → List Bool → List (List Bool) → List (List Int) → Int → Int → Option (Bool)
  | 0, _, _, _, _, _, _ => none
  | k + 1, x0, x4, x5, x6, x7, x8 => if x8 < (x0.length : Int) then (palinglaw14_GraphAbove.l2 k x0 x4 x5 x6 x7 x8 0) else (palinglaw14_GraphAbove.l0 k x0 x4 x5 x6 (wrap64 (x7 + 1)))
def palinglaw14_GraphAbove.l2 : Nat → List (S37) → List Bool → List (List Bool) → List (List Int) → Int → Int → Int → Option (Bool)
  | 0, _, _, _, _, _, _, _ => none
  | k + 1, x0, x4, x5, x6, x7, x8, x9 => if x9 < (x0.length : Int) then (if 0 ≤ x7 then (if x7 < (x5.length : Int) then (if 0 ≤ x8 then (if x8 < ((rd_L7 x5 x7).length : Int) then (if rdOf false (rd_L7 x5 x7) x8 = true then (if x8 < (x5.length : Int) then (if 0 ≤ x9 then (if x9 < ((rd_L7 x5 x8).length : Int) then (if rdOf false (rd_L7 x5 x8) x9 = true then (if x9 < ((rd_L7 x5 x7).length : Int) then (if (rdOf false (rd_L7 x5 x7) x9 = true) then (if x7 < ((rd_L7 x5 x8).length : Int) then (if rdOf false (rd_L7 x5 x8) x7 = true then (if x7 = x8 then (palinglaw14_GraphAbove.l2 k x0 x4 x5 x6 x7 x8 (wrap64 (x9 + 1))) else (none)) else (palinglaw14_GraphAbove.l2 k x0 x4 x5 x6 x7 x8 (wrap64 (x9 + 1)))) else (none)) else (none)) else (none)) else (if x7 < ((rd_L7 x5 x8).length : Int) then (if rdOf false (rd_L7 x5 x8) x7 = true then (if x7 = x8 then (palinglaw14_GraphAbove.l2 k x0 x4 x5 x6 x7 x8 (wrap64 (x9 + 1))) else (none)) else (palinglaw14_GraphAbove.l2 k x0 x4 x5 x6 x7 x8 (wrap64 (x9 + 1)))) else (none))) else (none)) else (none)) else (none)) else (palinglaw14_GraphAbove.l2 k x0 x4 x5 x6 x7 x8 (wrap64 (x9 + 1)))) else (none)) else (none)) else (none)) else (none)) else (palinglaw14_GraphAbove.l1 k x0 x4 x5 x6 x7 (wrap64 (x8 + 1)))
def palinglaw14_GraphAbove.l3 : Nat → List (List Bool) → List (List Int) → Int → Option (Bool)
  | 0, _, _, _ => none
  | k + 1, x5, x10, x11 => if x11 < (x10.length : Int) then (palinglaw14_GraphAbove.l4 k x5 x10 x11 0 0) else (some true)
def palinglaw14_GraphAbove.l4 : Nat → List (List Bool) → List (List Int) → Int → Int → Int → Option (Bool)
  | 0, _, _, _, _, _ => none
  | k + 1, x5, x10, x11, x12, x13 => if 0 ≤ x11 then (if x11 < (x10.length : Int) then (if x13 < ((rd_L5 x10 x11).length : Int) then (palinglaw14_GraphAbove.l5 k x5 x10 x11 x12 x13 true 0) else (if x12 < 1 then (some false) else (palinglaw14_GraphAbove.l3 k x5 x10 (wrap64 (x11 + 1))))) else (none)) else (none)
def palinglaw14_GraphAbove.l5 : Nat → List (List Bool) → List (List Int) → Int → Int → Int → Bool → Int → Option (Bool)
  | 0, _, _, _, _, _, _, _ => none
  | k + 1, x5, x10, x11, x12, x13, x14, x15 => if 0 ≤ x11 then (if x11 < (x10.length : Int) then (if x15 < ((rd_L5 x10 x11).length : Int) then (if x14 = true then (if 0 ≤ x15 then (if 0 ≤ (rd (rd_L5 x10 x11) x15) then (if (rd (rd_L5 x10 x11) x15) < (x5.length : Int) then (if 0 ≤ x13 then (if x13 < ((rd_L5 x10 x11).length : Int) then (if 0 ≤ (rd (rd_L5 x10 x11) x13) then (if (rd (rd_L5 x10 x11) x13) < ((rd_L7 x5 (rd (rd_L5 x10 x11) x15)).length : Int) then (palinglaw14_GraphAbove.l5 k x5 x10 x11 x12 x13 (rdOf false (rd_L7 x5 (rd (rd_L5 x10 x11) x15)) (rd (rd_L5 x10 x11) x13)) (wrap64 (x15 + 1))) else (none)) else (none)) else (none)) else (none)) else (none)) else (none)) else (none)) else (palinglaw14_GraphAbove.l5 k x5 x10 x11 x12 x13 false (wrap64 (x15 + 1)))) else (if x14 = true then (palinglaw14_GraphAbove.l4 k x5 x10 x11 (wrap64 (x12 + 1)) (wrap64 (x13 + 1))) else (palinglaw14_GraphAbove.l4 k x5 x10 x11 x12 (wrap64 (x13 + 1))))) else (none)) else (none)
end
def palinglaw14_GraphAbove.f (k : Nat) (l0 : List (S37)) : Option (Bool) := (palinglaw14_awake.f k).bind fun t178 => (if t178 = true then (if (l0.length : Int) > 40 then (palinglaw14_GraphAbove.j0 k l0 true) else (palinglaw14_GraphAbove.j0 k l0 ((l0.length : Int) == 0))) else (none))
theorem palinglaw14_GraphAbove.mono_l : ∀ k, (∀ y0 y1, LeO (palinglaw14_GraphAbove.j0 k y0 y1) (palinglaw14_GraphAbove.j0 (k + 1) y0 y1)) ∧ (∀ y0 y1 y2 y3 y4, LeO (palinglaw14_GraphAbove.l0 k y0 y1 y2 y3 y4) (palinglaw14_GraphAbove.l0 (k + 1) y0 y1 y2 y3 y4)) ∧ (∀ y0 y1 y2 y3 y4 y5, LeO (palinglaw14_GraphAbove.j2 k y0 y1 y2 y3 y4 y5) (palinglaw14_GraphAbove.j2 (k + 1) y0 y1 y2 y3 y4 y5)) ∧ (∀ y0 y1 y2 y3 y4 y5, LeO (palinglaw14_GraphAbove.l1 k y0 y1 y2 y3 y4 y5) (palinglaw14_GraphAbove.l1 (k + 1) y0 y1 y2 y3 y4 y5)) ∧ (∀ y0 y1 y2 y3 y4 y5 y6, LeO (palinglaw14_GraphAbove.l2 k y0 y1 y2 y3 y4 y5 y6) (palinglaw14_GraphAbove.l2 (k + 1) y0 y1 y2 y3 y4 y5 y6)) ∧ (∀ y0 y1 y2, LeO (palinglaw14_GraphAbove.l3 k y0 y1 y2) (palinglaw14_GraphAbove.l3 (k + 1) y0 y1 y2)) ∧ (∀ y0 y1 y2 y3 y4, LeO (palinglaw14_GraphAbove.l4 k y0 y1 y2 y3 y4) (palinglaw14_GraphAbove.l4 (k + 1) y0 y1 y2 y3 y4)) ∧ (∀ y0 y1 y2 y3 y4 y5 y6, LeO (palinglaw14_GraphAbove.l5 k y0 y1 y2 y3 y4 y5 y6) (palinglaw14_GraphAbove.l5 (k + 1) y0 y1 y2 y3 y4 y5 y6))
  | 0 => ⟨fun _ _ r h => by simp [palinglaw14_GraphAbove.j0] at h, fun _ _ _ _ _ r h => by simp [palinglaw14_GraphAbove.l0] at h, fun _ _ _ _ _ _ r h => by simp [palinglaw14_GraphAbove.j2] at h, fun _ _ _ _ _ _ r h => by simp [palinglaw14_GraphAbove.l1] at h, fun _ _ _ _ _ _ _ r h => by simp [palinglaw14_GraphAbove.l2] at h, fun _ _ _ r h => by simp [palinglaw14_GraphAbove.l3] at h, fun _ _ _ _ _ r h => by simp [palinglaw14_GraphAbove.l4] at h, fun _ _ _ _ _ _ _ r h => by simp [palinglaw14_GraphAbove.l5] at h⟩
  | k + 1 => by
    obtain ⟨ih0, ih1, ih2, ih3, ih4, ih5, ih6, ih7⟩ := palinglaw14_GraphAbove.mono_l k
    refine ⟨?_, ?_, ?_, ?_, ?_, ?_, ?_, ?_⟩
    · intro y0 y1
      unfold palinglaw14_GraphAbove.j0
      repeat' first
      | (with_reducible exact ih0 _ _)
      | (with_reducible exact ih1 _ _ _ _ _)
      | (with_reducible exact ih2 _ _ _ _ _ _)
      | (with_reducible exact ih3 _ _ _ _ _ _)
      | (with_reducible exact ih4 _ _ _ _ _ _ _)
      | (with_reducible exact ih5 _ _ _)
      | (with_reducible exact ih6 _ _ _ _ _)
      | (with_reducible exact ih7 _ _ _ _ _ _ _)
      | (with_reducible exact graph_Dominates.mono _ _)
      | (with_reducible exact graph_Loops.mono _ _)
      | (with_reducible exact graph_Preds.mono _ _)
      | (with_reducible exact graph_Reach.mono _ _)
      | (with_reducible exact palinglaw14_awake.mono _)
      | (with_reducible exact LeO.refl _)
      | (with_reducible exact LeO.none _)
      | (with_reducible refine LeO.ite ?_ ?_)
      | (with_reducible refine LeO.bind ?_ (fun _ => ?_))
      | exact ih0 _ _
      | exact ih1 _ _ _ _ _
      | exact ih2 _ _ _ _ _ _
      | exact ih3 _ _ _ _ _ _
      | exact ih4 _ _ _ _ _ _ _
      | exact ih5 _ _ _
      | exact ih6 _ _ _ _ _
      | exact ih7 _ _ _ _ _ _ _
      | exact graph_Dominates.mono _ _
      | exact graph_Loops.mono _ _
      | exact graph_Preds.mono _ _
      | exact graph_Reach.mono _ _
      | exact palinglaw14_awake.mono _
      | exact LeO.none _
      | refine LeO.ite ?_ ?_
      | refine LeO.bind ?_ (fun _ => ?_)
    · intro y0 y1 y2 y3 y4
      unfold palinglaw14_GraphAbove.l0
      repeat' first
      | (with_reducible exact ih0 _ _)
      | (with_reducible exact ih1 _ _ _ _ _)
      | (with_reducible exact ih2 _ _ _ _ _ _)
      | (with_reducible exact ih3 _ _ _ _ _ _)
      | (with_reducible exact ih4 _ _ _ _ _ _ _)
      | (with_reducible exact ih5 _ _ _)
      | (with_reducible exact ih6 _ _ _ _ _)
      | (with_reducible exact ih7 _ _ _ _ _ _ _)
      | (with_reducible exact graph_Dominates.mono _ _)
      | (with_reducible exact graph_Loops.mono _ _)
      | (with_reducible exact graph_Preds.mono _ _)
      | (with_reducible exact graph_Reach.mono _ _)
      | (with_reducible exact palinglaw14_awake.mono _)
      | (with_reducible exact LeO.refl _)
      | (with_reducible exact LeO.none _)
      | (with_reducible refine LeO.ite ?_ ?_)
      | (with_reducible refine LeO.bind ?_ (fun _ => ?_))
      | exact ih0 _ _
      | exact ih1 _ _ _ _ _
      | exact ih2 _ _ _ _ _ _
      | exact ih3 _ _ _ _ _ _
      | exact ih4 _ _ _ _ _ _ _
      | exact ih5 _ _ _
      | exact ih6 _ _ _ _ _
      | exact ih7 _ _ _ _ _ _ _
      | exact graph_Dominates.mono _ _
      | exact graph_Loops.mono _ _
      | exact graph_Preds.mono _ _
      | exact graph_Reach.mono _ _
      | exact palinglaw14_awake.mono _
      | exact LeO.none _
      | refine LeO.ite ?_ ?_
      | refine LeO.bind ?_ (fun _ => ?_)
    · intro y0 y1 y2 y3 y4 y5
      unfold palinglaw14_GraphAbove.j2
      repeat' first
      | (with_reducible exact ih0 _ _)
      | (with_reducible exact ih1 _ _ _ _ _)
      | (with_reducible exact ih2 _ _ _ _ _ _)
      | (with_reducible exact ih3 _ _ _ _ _ _)
      | (with_reducible exact ih4 _ _ _ _ _ _ _)
      | (with_reducible exact ih5 _ _ _)
      | (with_reducible exact ih6 _ _ _ _ _)
      | (with_reducible exact ih7 _ _ _ _ _ _ _)
      | (with_reducible exact graph_Dominates.mono _ _)
      | (with_reducible exact graph_Loops.mono _ _)
      | (with_reducible exact graph_Preds.mono _ _)
      | (with_reducible exact graph_Reach.mono _ _)
      | (with_reducible exact palinglaw14_awake.mono _)
      | (with_reducible exact LeO.refl _)
      | (with_reducible exact LeO.none _)
      | (with_reducible refine LeO.ite ?_ ?_)
      | (with_reducible refine LeO.bind ?_ (fun _ => ?_))
      | exact ih0 _ _
      | exact ih1 _ _ _ _ _
      | exact ih2 _ _ _ _ _ _
      | exact ih3 _ _ _ _ _ _
      | exact ih4 _ _ _ _ _ _ _
      | exact ih5 _ _ _
      | exact ih6 _ _ _ _ _
      | exact ih7 _ _ _ _ _ _ _
      | exact graph_Dominates.mono _ _
      | exact graph_Loops.mono _ _
      | exact graph_Preds.mono _ _
      | exact graph_Reach.mono _ _
      | exact palinglaw14_awake.mono _
      | exact LeO.none _
      | refine LeO.ite ?_ ?_
      | refine LeO.bind ?_ (fun _ => ?_)
    · intro y0 y1 y2 y3 y4 y5
      unfold palinglaw14_GraphAbove.l1
      repeat' first
      | (with_reducible exact ih0 _ _)
      | (with_reducible exact ih1 _ _ _ _ _)
      | (with_reducible exact ih2 _ _ _ _ _ _)
      | (with_reducible exact ih3 _ _ _ _ _ _)
      | (with_reducible exact ih4 _ _ _ _ _ _ _)
      | (with_reducible exact ih5 _ _ _)
      | (with_reducible exact ih6 _ _ _ _ _)
      | (with_reducible exact ih7 _ _ _ _ _ _ _)
      | (with_reducible exact graph_Dominates.mono _ _)
      | (with_reducible exact graph_Loops.mono _ _)
      | (with_reducible exact graph_Preds.mono _ _)
      | (with_reducible exact graph_Reach.mono _ _)
      | (with_reducible exact palinglaw14_awake.mono _)
      | (with_reducible exact LeO.refl _)
      | (with_reducible exact LeO.none _)
      | (with_reducible refine LeO.ite ?_ ?_)
      | (with_reducible refine LeO.bind ?_ (fun _ => ?_))
      | exact ih0 _ _
      | exact ih1 _ _ _ _ _
      | exact ih2 _ _ _ _ _ _
      | exact ih3 _ _ _ _ _ _
      | exact ih4 _ _ _ _ _ _ _
      | exact ih5 _ _ _
      | exact ih6 _ _ _ _ _
      | exact ih7 _ _ _ _ _ _ _
      | exact graph_Dominates.mono _ _
      | exact graph_Loops.mono _ _
      | exact graph_Preds.mono _ _
      | exact graph_Reach.mono _ _
      | exact palinglaw14_awake.mono _
      | exact LeO.none _
      | refine LeO.ite ?_ ?_
      | refine LeO.bind ?_ (fun _ => ?_)
    · intro y0 y1 y2 y3 y4 y5 y6
      unfold palinglaw14_GraphAbove.l2
      repeat' first
      | (with_reducible exact ih0 _ _)
      | (with_reducible exact ih1 _ _ _ _ _)
      | (with_reducible exact ih2 _ _ _ _ _ _)
      | (with_reducible exact ih3 _ _ _ _ _ _)
      | (with_reducible exact ih4 _ _ _ _ _ _ _)
      | (with_reducible exact ih5 _ _ _)
      | (with_reducible exact ih6 _ _ _ _ _)
      | (with_reducible exact ih7 _ _ _ _ _ _ _)
      | (with_reducible exact graph_Dominates.mono _ _)
      | (with_reducible exact graph_Loops.mono _ _)
      | (with_reducible exact graph_Preds.mono _ _)
      | (with_reducible exact graph_Reach.mono _ _)
      | (with_reducible exact palinglaw14_awake.mono _)
      | (with_reducible exact LeO.refl _)
      | (with_reducible exact LeO.none _)
      | (with_reducible refine LeO.ite ?_ ?_)
      | (with_reducible refine LeO.bind ?_ (fun _ => ?_))
      | exact ih0 _ _
      | exact ih1 _ _ _ _ _
      | exact ih2 _ _ _ _ _ _
      | exact ih3 _ _ _ _ _ _
      | exact ih4 _ _ _ _ _ _ _
      | exact ih5 _ _ _
      | exact ih6 _ _ _ _ _
      | exact ih7 _ _ _ _ _ _ _
      | exact graph_Dominates.mono _ _
      | exact graph_Loops.mono _ _
      | exact graph_Preds.mono _ _
      | exact graph_Reach.mono _ _
      | exact palinglaw14_awake.mono _
      | exact LeO.none _
      | refine LeO.ite ?_ ?_
      | refine LeO.bind ?_ (fun _ => ?_)
    · intro y0 y1 y2
      unfold palinglaw14_GraphAbove.l3
      repeat' first
      | (with_reducible exact ih0 _ _)
      | (with_reducible exact ih1 _ _ _ _ _)
      | (with_reducible exact ih2 _ _ _ _ _ _)
      | (with_reducible exact ih3 _ _ _ _ _ _)
      | (with_reducible exact ih4 _ _ _ _ _ _ _)
      | (with_reducible exact ih5 _ _ _)
      | (with_reducible exact ih6 _ _ _ _ _)
      | (with_reducible exact ih7 _ _ _ _ _ _ _)
      | (with_reducible exact graph_Dominates.mono _ _)
      | (with_reducible exact graph_Loops.mono _ _)
      | (with_reducible exact graph_Preds.mono _ _)
      | (with_reducible exact graph_Reach.mono _ _)
      | (with_reducible exact palinglaw14_awake.mono _)
      | (with_reducible exact LeO.refl _)
      | (with_reducible exact LeO.none _)
      | (with_reducible refine LeO.ite ?_ ?_)
      | (with_reducible refine LeO.bind ?_ (fun _ => ?_))
      | exact ih0 _ _
      | exact ih1 _ _ _ _ _
      | exact ih2 _ _ _ _ _ _
      | exact ih3 _ _ _ _ _ _
      | exact ih4 _ _ _ _ _ _ _
      | exact ih5 _ _ _
      | exact ih6 _ _ _ _ _
      | exact ih7 _ _ _ _ _ _ _
      | exact graph_Dominates.mono _ _
      | exact graph_Loops.mono _ _
      | exact graph_Preds.mono _ _
      | exact graph_Reach.mono _ _
      | exact palinglaw14_awake.mono _
      | exact LeO.none _
      | refine LeO.ite ?_ ?_
      | refine LeO.bind ?_ (fun _ => ?_)
    · intro y0 y1 y2 y3 y4
      unfold palinglaw14_GraphAbove.l4
      repeat' first
      | (with_reducible exact ih0 _ _)
      | (with_reducible exact ih1 _ _ _ _ _)
      | (with_reducible exact ih2 _ _ _ _ _ _)
      | (with_reducible exact ih3 _ _ _ _ _ _)
      | (with_reducible exact ih4 _ _ _ _ _ _ _)
      | (with_reducible exact ih5 _ _ _)
      | (with_reducible exact ih6 _ _ _ _ _)
      | (with_reducible exact ih7 _ _ _ _ _ _ _)
      | (with_reducible exact graph_Dominates.mono _ _)
      | (with_reducible exact graph_Loops.mono _ _)
      | (with_reducible exact graph_Preds.mono _ _)
      | (with_reducible exact graph_Reach.mono _ _)
      | (with_reducible exact palinglaw14_awake.mono _)
      | (with_reducible exact LeO.refl _)
      | (with_reducible exact LeO.none _)
      | (with_reducible refine LeO.ite ?_ ?_)
      | (with_reducible refine LeO.bind ?_ (fun _ => ?_))
      | exact ih0 _ _
      | exact ih1 _ _ _ _ _
      | exact ih2 _ _ _ _ _ _
      | exact ih3 _ _ _ _ _ _
      | exact ih4 _ _ _ _ _ _ _
      | exact ih5 _ _ _
      | exact ih6 _ _ _ _ _
      | exact ih7 _ _ _ _ _ _ _
      | exact graph_Dominates.mono _ _
      | exact graph_Loops.mono _ _
      | exact graph_Preds.mono _ _
      | exact graph_Reach.mono _ _
      | exact palinglaw14_awake.mono _
      | exact LeO.none _
      | refine LeO.ite ?_ ?_
      | refine LeO.bind ?_ (fun _ => ?_)
    · intro y0 y1 y2 y3 y4 y5 y6
      unfold palinglaw14_GraphAbove.l5
      repeat' first
      | (with_reducible exact ih0 _ _)
      | (with_reducible exact ih1 _ _ _ _ _)
      | (with_reducible exact ih2 _ _ _ _ _ _)
      | (with_reducible exact ih3 _ _ _ _ _ _)
      | (with_reducible exact ih4 _ _ _ _ _ _ _)
      | (with_reducible exact ih5 _ _ _)
      | (with_reducible exact ih6 _ _ _ _ _)
      | (with_reducible exact ih7 _ _ _ _ _ _ _)
      | (with_reducible exact graph_Dominates.mono _ _)
      | (with_reducible exact graph_Loops.mono _ _)
      | (with_reducible exact graph_Preds.mono _ _)
      | (with_reducible exact graph_Reach.mono _ _)
      | (with_reducible exact palinglaw14_awake.mono _)
      | (with_reducible exact LeO.refl _)
      | (with_reducible exact LeO.none _)
      | (with_reducible refine LeO.ite ?_ ?_)
      | (with_reducible refine LeO.bind ?_ (fun _ => ?_))
      | exact ih0 _ _
      | exact ih1 _ _ _ _ _
      | exact ih2 _ _ _ _ _ _
      | exact ih3 _ _ _ _ _ _
      | exact ih4 _ _ _ _ _ _ _
      | exact ih5 _ _ _
      | exact ih6 _ _ _ _ _
      | exact ih7 _ _ _ _ _ _ _
      | exact graph_Dominates.mono _ _
      | exact graph_Loops.mono _ _
      | exact graph_Preds.mono _ _
      | exact graph_Reach.mono _ _
      | exact palinglaw14_awake.mono _
      | exact LeO.none _
      | refine LeO.ite ?_ ?_
      | refine LeO.bind ?_ (fun _ => ?_)
theorem palinglaw14_GraphAbove.mono : ∀ a0 k, LeO (palinglaw14_GraphAbove.f k a0) (palinglaw14_GraphAbove.f (k + 1) a0) := by
  intro a0 k
  obtain ⟨ih0, ih1, ih2, ih3, ih4, ih5, ih6, ih7⟩ := palinglaw14_GraphAbove.mono_l k
  unfold palinglaw14_GraphAbove.f
  repeat' first
      | (with_reducible exact ih0 _ _)
      | (with_reducible exact ih1 _ _ _ _ _)
      | (with_reducible exact ih2 _ _ _ _ _ _)
      | (with_reducible exact ih3 _ _ _ _ _ _)
      | (with_reducible exact ih4 _ _ _ _ _ _ _)
      | (with_reducible exact ih5 _ _ _)
      | (with_reducible exact ih6 _ _ _ _ _)
      | (with_reducible exact ih7 _ _ _ _ _ _ _)
      | (with_reducible exact graph_Dominates.mono _ _)
      | (with_reducible exact graph_Loops.mono _ _)
      | (with_reducible exact graph_Preds.mono _ _)
      | (with_reducible exact graph_Reach.mono _ _)
      | (with_reducible exact palinglaw14_awake.mono _)
      | (with_reducible exact LeO.refl _)
      | (with_reducible exact LeO.none _)
      | (with_reducible refine LeO.ite ?_ ?_)
      | (with_reducible refine LeO.bind ?_ (fun _ => ?_))
      | exact ih0 _ _
      | exact ih1 _ _ _ _ _
      | exact ih2 _ _ _ _ _ _
      | exact ih3 _ _ _ _ _ _
      | exact ih4 _ _ _ _ _ _ _
      | exact ih5 _ _ _
      | exact ih6 _ _ _ _ _
      | exact ih7 _ _ _ _ _ _ _
      | exact graph_Dominates.mono _ _
      | exact graph_Loops.mono _ _
      | exact graph_Preds.mono _ _
      | exact graph_Reach.mono _ _
      | exact palinglaw14_awake.mono _
      | exact LeO.none _
      | refine LeO.ite ?_ ?_
      | refine LeO.bind ?_ (fun _ => ?_)
set_option maxHeartbeats 8000000 in
set_option maxRecDepth 100000 in
theorem palinglaw14_GraphAbove.calls (k : Nat) (A0 : Option Addr) (c0 : Nat) (l0 : List (S37)) (r : Bool) (w : World) (hr0 : Kd.C k37 w A0 l0.length l0) (hc0 : l0.length ≤ c0) (h : palinglaw14_GraphAbove.f k l0 = some r) (hgl : GlobOK w) :
    Calls Tryd.prog 5 #[.slice A0 l0.length c0] w fun e w' => e = .returned (.bool r) ∧ Below w.heap.size w w' := by
  have HR0 := Aside0.mk hr0
  have HC0 := Aside0.mk hc0
  clear hr0 hc0
  have HB := Aside0.mk (Below.refl w.heap.size w)
  have HGL := Aside0.mk hgl
  clear hgl
  have H : ((palinglaw14_awake.f k).bind fun t178 => (if t178 = true then (if (l0.length : Int) > 40 then (palinglaw14_GraphAbove.j0 k l0 true) else (palinglaw14_GraphAbove.j0 k l0 ((l0.length : Int) == 0))) else (none))) = some r := h
  clear h
  replace H := Option.bind_eq_some_iff.mp H
  obtain ⟨t178, A20, H⟩ := H
  replace H : (if t178 = true then (if (l0.length : Int) > 40 then (palinglaw14_GraphAbove.j0 k l0 true) else (palinglaw14_GraphAbove.j0 k l0 ((l0.length : Int) == 0))) else (none)) = some r := H
  have A2 := Aside0.mk A20
  clear A20
  by_cases c3 : t178 = true
  · subst c3
    have H1 : (if (l0.length : Int) > 40 then (palinglaw14_GraphAbove.j0 k l0 true) else (palinglaw14_GraphAbove.j0 k l0 ((l0.length : Int) == 0))) = some r := by rw [if_pos rfl] at H; exact H
    clear H
    have H := H1
    clear H1
    have HC4 := Aside0.mk H
    clear H
    go_enter Tryd.func5, Tryd.ntmps5
    go_upto_region 4 with (first | (go_at_call 7; (with_reducible refine (palinglaw14_awake.calls k  true _ A2.out (GlobOK.step HGL.out (by repeat (first | (with_reducible first | exact HB.out | apply below_alloc | apply pw_below_drewN | apply below_drew1) | exact HB.out)))).mono ?_); rintro e w5 ⟨rfl, hb⟩; have n0_ := Aside0.mk (below_step (by repeat (first | (with_reducible first | exact HB.out | apply below_alloc | apply pw_below_drewN | apply below_drew1) | exact HB.out)) hb); clear HB; have HB := n0_; clear n0_; (try clear hb); (try clear hb2); (try clear hk); (try clear hi)))
    repeat (go_quiet (first | (go_at_call 7; (with_reducible refine (palinglaw14_awake.calls k  true _ A2.out (GlobOK.step HGL.out (by repeat (first | (with_reducible first | exact HB.out | apply below_alloc | apply pw_below_drewN | apply below_drew1) | exact HB.out)))).mono ?_); rintro e w5 ⟨rfl, hb⟩; have n0_ := Aside0.mk (below_step (by repeat (first | (with_reducible first | exact HB.out | apply below_alloc | apply pw_below_drewN | apply below_drew1) | exact HB.out)) hb); clear HB; have HB := n0_; clear n0_; (try clear hb); (try clear hb2); (try clear hk); (try clear hi))); go_upto_region 4 with (first | (go_at_call 7; (with_reducible refine (palinglaw14_awake.calls k  true _ A2.out (GlobOK.step HGL.out (by repeat (first | (with_reducible first | exact HB.out | apply below_alloc | apply pw_below_drewN | apply below_drew1) | exact HB.out)))).mono ?_); rintro e w5 ⟨rfl, hb⟩; have n0_ := Aside0.mk (below_step (by repeat (first | (with_reducible first | exact HB.out | apply below_alloc | apply pw_below_drewN | apply below_drew1) | exact HB.out)) hb); clear HB; have HB := n0_; clear n0_; (try clear hb); (try clear hb2); (try clear hk); (try clear hi))))
    (try simp only [Act.put, List.setIfInBounds_toArray, List.set_cons_zero, List.set_cons_succ])
    go_cut [26] (fun v26 wc => ∃ (kq : Nat) (x26_3 : Bool), v26 = .bool x26_3 ∧ Aside0 (palinglaw14_GraphAbove.j0 kq l0 x26_3 = some r) ∧ Aside0 (kq ≤ k) ∧ Aside0 (Below w.heap.size w wc))
    case first =>
      have H := HC4.out
      clear HC4
      by_cases c6 : (l0.length : Int) > 40
      · rw [if_pos c6] at H
        have c6b0 : decide (40 < (l0.length : Int)) = true := decide_eq_true c6
        have c6b1 : decide (40 < l0.length) = true := decide_eq_true (by omega)
        clear c6
        (first | rw [c6b0] | (simp only [i64_w, i32_w]; rw [c6b0]) | skip)
        have H' := Aside0.mk H
        clear H
        go_wp2
        repeat (go_quiet (fail); try go_wp2)
        go_meet
        case rel => exact ⟨_, (true), (by first | rfl | (simp; done) | (simp [*]; done)), H', ⟨by first | omega | exact Nat.le_refl _⟩, ⟨by repeat (first | (with_reducible first | exact HB.out | apply below_alloc | apply pw_below_drewN | apply below_drew1) | exact HB.out)⟩⟩
      · rw [if_neg c6] at H
        have c6b0 : decide (40 < (l0.length : Int)) = false := decide_eq_false c6
        have c6b1 : decide (40 < l0.length) = false := decide_eq_false (by omega)
        clear c6
        (first | rw [c6b0] | (simp only [i64_w, i32_w]; rw [c6b0]) | skip)
        have H' := Aside0.mk H
        clear H
        go_wp2
        repeat (go_quiet (fail); try go_wp2)
        go_meet
        case rel => exact ⟨_, (((l0.length : Int) == 0)), (by first | rfl | (simp; done) | (simp [*]; done)), H', ⟨by first | omega | exact Nat.le_refl _⟩, ⟨by repeat (first | (with_reducible first | exact HB.out | apply below_alloc | apply pw_below_drewN | apply below_drew1) | exact HB.out)⟩⟩
    case rest =>
      clear HC4
      try clear p2
      try clear c3
      try clear c5
      try clear c6
      try clear c6b0
      try clear c6b1
      obtain ⟨kq, x26_3, rfl, HA, HJ3, HB⟩ := hcut
      cases kq with
      | zero => exact absurd HA.out (by simp [palinglaw14_GraphAbove.j0])
      | succ kj3 =>
        have H := HA.out
        clear HA
        simp only [palinglaw14_GraphAbove.j0] at H
        by_cases c7 : x26_3 = true
        · subst c7
          have H1 : (some true) = some r := by rw [if_pos rfl] at H; exact H
          clear H
          have H := H1
          clear H1
          obtain rfl := Option.some.inj H
          go_wp2
          repeat (go_quiet (fail); try go_wp2)
          go_ret
          exact ⟨by first | rfl | (simp [errW_none, errW_some] <;> rfl) | (simp [*, errW_none, errW_some] <;> rfl), by repeat (first | (with_reducible first | exact HB.out | apply below_alloc | apply pw_below_drewN | apply below_drew1) | exact HB.out)⟩
        · replace c7 := Bool.eq_false_iff.mpr c7
          subst c7
          have H1 : ((graph_Reach.f kj3 l0).bind fun t179 => ((graph_Dominates.f kj3 l0).bind fun t182 => ((graph_Preds.f kj3 l0).bind fun t185 => (palinglaw14_GraphAbove.l0 kj3 l0 t179 t182 t185 0)))) = some r := by rw [if_neg (show ¬ (false = true) by decide)] at H; exact H
          clear H
          have H := H1
          clear H1
          replace H := Option.bind_eq_some_iff.mp H
          obtain ⟨t179, A80, H⟩ := H
          replace H : ((graph_Dominates.f kj3 l0).bind fun t182 => ((graph_Preds.f kj3 l0).bind fun t185 => (palinglaw14_GraphAbove.l0 kj3 l0 t179 t182 t185 0))) = some r := H
          have A8 := Aside0.mk A80
          clear A80
          replace H := Option.bind_eq_some_iff.mp H
          obtain ⟨t182, A90, H⟩ := H
          replace H : ((graph_Preds.f kj3 l0).bind fun t185 => (palinglaw14_GraphAbove.l0 kj3 l0 t179 t182 t185 0)) = some r := H
          have A9 := Aside0.mk A90
          clear A90
          replace H := Option.bind_eq_some_iff.mp H
          obtain ⟨t185, A100, H⟩ := H
          replace H : (palinglaw14_GraphAbove.l0 kj3 l0 t179 t182 t185 0) = some r := H
          have A10 := Aside0.mk A100
          clear A100
          have H' := Aside0.mk H
          clear H
          go_wp2_with (first | (go_at_call 9; (with_reducible refine (graph_Reach.calls kj3 _ _ l0 t179 _ ?side1 ?side2 A8.out (GlobOK.step HGL.out (by repeat (first | (with_reducible first | exact HB.out | apply below_alloc | apply pw_below_drewN | apply below_drew1) | exact HB.out)))).mono ?_); (case side1 => repeat (first | exact (Kd.C_below HR0.out HB.out) | (with_reducible refine Kd.C_alloc ?_ _) | (with_reducible refine Kd.C_drewN ?_ _) | (with_reducible refine Kd.C_drew ?_))); (case side2 => exact HC0.out); rintro e w11 ⟨v180, rfl, ho0, hb⟩; have n0_ := Aside0.mk (Kd.R_lower ho0 (below_size (by repeat (first | (with_reducible first | exact HB.out | apply below_alloc | apply pw_below_drewN | apply below_drew1) | exact HB.out)))); have n1_ := Aside0.mk (below_step (by repeat (first | (with_reducible first | exact HB.out | apply below_alloc | apply pw_below_drewN | apply below_drew1) | exact HB.out)) hb); clear HB; have HO181 := n0_; have HB := n1_; clear n0_ n1_; (try clear hb); (try clear hb2); (try clear hk); (try clear hi); (try clear ho0)) | (go_at_call 14; (with_reducible refine (graph_Dominates.calls kj3 _ _ l0 t182 _ ?side1 ?side2 A9.out (GlobOK.step HGL.out (by repeat (first | (with_reducible first | exact HB.out | apply below_alloc | apply pw_below_drewN | apply below_drew1) | exact HB.out)))).mono ?_); (case side1 => repeat (first | exact (Kd.C_below HR0.out HB.out) | (with_reducible refine Kd.C_alloc ?_ _) | (with_reducible refine Kd.C_drewN ?_ _) | (with_reducible refine Kd.C_drew ?_))); (case side2 => exact HC0.out); rintro e w12 ⟨v183, rfl, ho0, hb⟩; have n0_ := Aside0.mk (Kd.R_below (by (with_reducible repeat (first | apply Kd.R_alloc | apply Kd.R_drewN | apply Kd.R_drew)); exact HO181.out) hb); have n1_ := Aside0.mk (Kd.S_lower (Kd.S_new' ho0 (Kd.R_lt (by (with_reducible repeat (first | apply Kd.R_alloc | apply Kd.R_drewN | apply Kd.R_drew)); exact HO181.out))) (below_size (by repeat (first | (with_reducible first | exact HB.out | apply below_alloc | apply pw_below_drewN | apply below_drew1) | exact HB.out)))); have n2_ := Aside0.mk (below_step (by repeat (first | (with_reducible first | exact HB.out | apply below_alloc | apply pw_below_drewN | apply below_drew1) | exact HB.out)) hb); clear HO181; clear HB; have HO181 := n0_; have HO184 := n1_; have HB := n2_; clear n0_ n1_ n2_; (try clear hb); (try clear hb2); (try clear hk); (try clear hi); (try clear ho0)) | (go_at_call 12; (with_reducible refine (graph_Preds.calls kj3 _ _ l0 t185 _ ?side1 ?side2 A10.out (GlobOK.step HGL.out (by repeat (first | (with_reducible first | exact HB.out | apply below_alloc | apply pw_below_drewN | apply below_drew1) | exact HB.out)))).mono ?_); (case side1 => repeat (first | exact (Kd.C_below HR0.out HB.out) | (with_reducible refine Kd.C_alloc ?_ _) | (with_reducible refine Kd.C_drewN ?_ _) | (with_reducible refine Kd.C_drew ?_))); (case side2 => exact HC0.out); rintro e w13 ⟨v186, rfl, ho0, hb⟩; have n0_ := Aside0.mk (Kd.R_below (by (with_reducible repeat (first | apply Kd.R_alloc | apply Kd.R_drewN | apply Kd.R_drew)); exact HO181.out) hb); have n1_ := Aside0.mk (Kd.S_below (by (with_reducible repeat (first | apply Kd.S_alloc | apply Kd.S_drewN | apply Kd.S_drew)); exact HO184.out) hb); have n2_ := Aside0.mk (Kd.S_lower ho0 (below_size (by repeat (first | (with_reducible first | exact HB.out | apply below_alloc | apply pw_below_drewN | apply below_drew1) | exact HB.out)))); have n3_ := Aside0.mk (below_step (by repeat (first | (with_reducible first | exact HB.out | apply below_alloc | apply pw_below_drewN | apply below_drew1) | exact HB.out)) hb); clear HO181; clear HO184; clear HB; have HO181 := n0_; have HO184 := n1_; have HO187 := n2_; have HB := n3_; clear n0_ n1_ n2_ n3_; (try clear hb); (try clear hb2); (try clear hk); (try clear hi); (try clear ho0)))
          repeat (go_quiet (first | (go_at_call 9; (with_reducible refine (graph_Reach.calls kj3 _ _ l0 t179 _ ?side1 ?side2 A8.out (GlobOK.step HGL.out (by repeat (first | (with_reducible first | exact HB.out | apply below_alloc | apply pw_below_drewN | apply below_drew1) | exact HB.out)))).mono ?_); (case side1 => repeat (first | exact (Kd.C_below HR0.out HB.out) | (with_reducible refine Kd.C_alloc ?_ _) | (with_reducible refine Kd.C_drewN ?_ _) | (with_reducible refine Kd.C_drew ?_))); (case side2 => exact HC0.out); rintro e w11 ⟨v180, rfl, ho0, hb⟩; have n0_ := Aside0.mk (Kd.R_lower ho0 (below_size (by repeat (first | (with_reducible first | exact HB.out | apply below_alloc | apply pw_below_drewN | apply below_drew1) | exact HB.out)))); have n1_ := Aside0.mk (below_step (by repeat (first | (with_reducible first | exact HB.out | apply below_alloc | apply pw_below_drewN | apply below_drew1) | exact HB.out)) hb); clear HB; have HO181 := n0_; have HB := n1_; clear n0_ n1_; (try clear hb); (try clear hb2); (try clear hk); (try clear hi); (try clear ho0)) | (go_at_call 14; (with_reducible refine (graph_Dominates.calls kj3 _ _ l0 t182 _ ?side1 ?side2 A9.out (GlobOK.step HGL.out (by repeat (first | (with_reducible first | exact HB.out | apply below_alloc | apply pw_below_drewN | apply below_drew1) | exact HB.out)))).mono ?_); (case side1 => repeat (first | exact (Kd.C_below HR0.out HB.out) | (with_reducible refine Kd.C_alloc ?_ _) | (with_reducible refine Kd.C_drewN ?_ _) | (with_reducible refine Kd.C_drew ?_))); (case side2 => exact HC0.out); rintro e w12 ⟨v183, rfl, ho0, hb⟩; have n0_ := Aside0.mk (Kd.R_below (by (with_reducible repeat (first | apply Kd.R_alloc | apply Kd.R_drewN | apply Kd.R_drew)); exact HO181.out) hb); have n1_ := Aside0.mk (Kd.S_lower (Kd.S_new' ho0 (Kd.R_lt (by (with_reducible repeat (first | apply Kd.R_alloc | apply Kd.R_drewN | apply Kd.R_drew)); exact HO181.out))) (below_size (by repeat (first | (with_reducible first | exact HB.out | apply below_alloc | apply pw_below_drewN | apply below_drew1) | exact HB.out)))); have n2_ := Aside0.mk (below_step (by repeat (first | (with_reducible first | exact HB.out | apply below_alloc | apply pw_below_drewN | apply below_drew1) | exact HB.out)) hb); clear HO181; clear HB; have HO181 := n0_; have HO184 := n1_; have HB := n2_; clear n0_ n1_ n2_; (try clear hb); (try clear hb2); (try clear hk); (try clear hi); (try clear ho0)) | (go_at_call 12; (with_reducible refine (graph_Preds.calls kj3 _ _ l0 t185 _ ?side1 ?side2 A10.out (GlobOK.step HGL.out (by repeat (first | (with_reducible first | exact HB.out | apply below_alloc | apply pw_below_drewN | apply below_drew1) | exact HB.out)))).mono ?_); (case side1 => repeat (first | exact (Kd.C_below HR0.out HB.out) | (with_reducible refine Kd.C_alloc ?_ _) | (with_reducible refine Kd.C_drewN ?_ _) | (with_reducible refine Kd.C_drew ?_))); (case side2 => exact HC0.out); rintro e w13 ⟨v186, rfl, ho0, hb⟩; have n0_ := Aside0.mk (Kd.R_below (by (with_reducible repeat (first | apply Kd.R_alloc | apply Kd.R_drewN | apply Kd.R_drew)); exact HO181.out) hb); have n1_ := Aside0.mk (Kd.S_below (by (with_reducible repeat (first | apply Kd.S_alloc | apply Kd.S_drewN | apply Kd.S_drew)); exact HO184.out) hb); have n2_ := Aside0.mk (Kd.S_lower ho0 (below_size (by repeat (first | (with_reducible first | exact HB.out | apply below_alloc | apply pw_below_drewN | apply below_drew1) | exact HB.out)))); have n3_ := Aside0.mk (below_step (by repeat (first | (with_reducible first | exact HB.out | apply below_alloc | apply pw_below_drewN | apply below_drew1) | exact HB.out)) hb); clear HO181; clear HO184; clear HB; have HO181 := n0_; have HO184 := n1_; have HO187 := n2_; have HB := n3_; clear n0_ n1_ n2_ n3_; (try clear hb); (try clear hb2); (try clear hk); (try clear hi); (try clear ho0))); try go_wp2_with (first | (go_at_call 9; (with_reducible refine (graph_Reach.calls kj3 _ _ l0 t179 _ ?side1 ?side2 A8.out (GlobOK.step HGL.out (by repeat (first | (with_reducible first | exact HB.out | apply below_alloc | apply pw_below_drewN | apply below_drew1) | exact HB.out)))).mono ?_); (case side1 => repeat (first | exact (Kd.C_below HR0.out HB.out) | (with_reducible refine Kd.C_alloc ?_ _) | (with_reducible refine Kd.C_drewN ?_ _) | (with_reducible refine Kd.C_drew ?_))); (case side2 => exact HC0.out); rintro e w11 ⟨v180, rfl, ho0, hb⟩; have n0_ := Aside0.mk (Kd.R_lower ho0 (below_size (by repeat (first | (with_reducible first | exact HB.out | apply below_alloc | apply pw_below_drewN | apply below_drew1) | exact HB.out)))); have n1_ := Aside0.mk (below_step (by repeat (first | (with_reducible first | exact HB.out | apply below_alloc | apply pw_below_drewN | apply below_drew1) | exact HB.out)) hb); clear HB; have HO181 := n0_; have HB := n1_; clear n0_ n1_; (try clear hb); (try clear hb2); (try clear hk); (try clear hi); (try clear ho0)) | (go_at_call 14; (with_reducible refine (graph_Dominates.calls kj3 _ _ l0 t182 _ ?side1 ?side2 A9.out (GlobOK.step HGL.out (by repeat (first | (with_reducible first | exact HB.out | apply below_alloc | apply pw_below_drewN | apply below_drew1) | exact HB.out)))).mono ?_); (case side1 => repeat (first | exact (Kd.C_below HR0.out HB.out) | (with_reducible refine Kd.C_alloc ?_ _) | (with_reducible refine Kd.C_drewN ?_ _) | (with_reducible refine Kd.C_drew ?_))); (case side2 => exact HC0.out); rintro e w12 ⟨v183, rfl, ho0, hb⟩; have n0_ := Aside0.mk (Kd.R_below (by (with_reducible repeat (first | apply Kd.R_alloc | apply Kd.R_drewN | apply Kd.R_drew)); exact HO181.out) hb); have n1_ := Aside0.mk (Kd.S_lower (Kd.S_new' ho0 (Kd.R_lt (by (with_reducible repeat (first | apply Kd.R_alloc | apply Kd.R_drewN | apply Kd.R_drew)); exact HO181.out))) (below_size (by repeat (first | (with_reducible first | exact HB.out | apply below_alloc | apply pw_below_drewN | apply below_drew1) | exact HB.out)))); have n2_ := Aside0.mk (below_step (by repeat (first | (with_reducible first | exact HB.out | apply below_alloc | apply pw_below_drewN | apply below_drew1) | exact HB.out)) hb); clear HO181; clear HB; have HO181 := n0_; have HO184 := n1_; have HB := n2_; clear n0_ n1_ n2_; (try clear hb); (try clear hb2); (try clear hk); (try clear hi); (try clear ho0)) | (go_at_call 12; (with_reducible refine (graph_Preds.calls kj3 _ _ l0 t185 _ ?side1 ?side2 A10.out (GlobOK.step HGL.out (by repeat (first | (with_reducible first | exact HB.out | apply below_alloc | apply pw_below_drewN | apply below_drew1) | exact HB.out)))).mono ?_); (case side1 => repeat (first | exact (Kd.C_below HR0.out HB.out) | (with_reducible refine Kd.C_alloc ?_ _) | (with_reducible refine Kd.C_drewN ?_ _) | (with_reducible refine Kd.C_drew ?_))); (case side2 => exact HC0.out); rintro e w13 ⟨v186, rfl, ho0, hb⟩; have n0_ := Aside0.mk (Kd.R_below (by (with_reducible repeat (first | apply Kd.R_alloc | apply Kd.R_drewN | apply Kd.R_drew)); exact HO181.out) hb); have n1_ := Aside0.mk (Kd.S_below (by (with_reducible repeat (first | apply Kd.S_alloc | apply Kd.S_drewN | apply Kd.S_drew)); exact HO184.out) hb); have n2_ := Aside0.mk (Kd.S_lower ho0 (below_size (by repeat (first | (with_reducible first | exact HB.out | apply below_alloc | apply pw_below_drewN | apply below_drew1) | exact HB.out)))); have n3_ := Aside0.mk (below_step (by repeat (first | (with_reducible first | exact HB.out | apply below_alloc | apply pw_below_drewN | apply below_drew1) | exact HB.out)) hb); clear HO181; clear HO184; clear HB; have HO181 := n0_; have HO184 := n1_; have HO187 := n2_; have HB := n3_; clear n0_ n1_ n2_ n3_; (try clear hb); (try clear hb2); (try clear hk); (try clear hi); (try clear ho0))))
          go_loopg [7] kj3 (fun kq v7 w' => ∃ (x7_2 : Int), v7 = .int .i64 x7_2 ∧ Aside0 (palinglaw14_GraphAbove.l0 kq l0 t179 t182 t185 x7_2 = some r) ∧ Aside0 (kq ≤ kj3) ∧ Aside0 (Kd.R Kd.bool 4 w' w.heap.size (fun _ => True) v180 t179) ∧ Aside0 (Kd.S (Kd.slice 4 Kd.bool) 25 w' w.heap.size (fun k_ => some k_ ≠ (v180 : Value).ownBlock) v183 t182) ∧ Aside0 (Kd.S (Kd.slice 3 (Kd.int .i64)) 34 w' w.heap.size (fun _ => True) v186 t185) ∧ Aside0 (Below w.heap.size w w'))
          case atStart => exact ⟨(0), (by first | rfl | (simp; done) | (simp [*]; done)), H', ⟨Nat.le_refl _⟩, ⟨by (with_reducible repeat (first | apply Kd.R_alloc | apply Kd.R_drewN | apply Kd.R_drew)); exact HO181.out⟩, ⟨by (with_reducible repeat (first | apply Kd.S_alloc | apply Kd.S_drewN | apply Kd.S_drew)); exact Kd.S_mono HO184.out (fun _ hk => hk.2)⟩, ⟨by (with_reducible repeat (first | apply Kd.S_alloc | apply Kd.S_drewN | apply Kd.S_drew)); exact HO187.out⟩, ⟨by repeat (first | (with_reducible first | exact HB.out | apply below_alloc | apply pw_below_drewN | apply below_drew1) | exact HB.out)⟩⟩
          case round =>
            as_aux_lemma =>
            clear H'
            try clear p2
            try clear c3
            try clear c5
            try clear c6
            try clear c6b0
            try clear c6b1
            try clear c7
            try clear p2
            obtain ⟨x7_2, rfl, HA, HK2, HO_4, HO_5, HO_6, HB⟩ := hrel
            cases gk with
            | zero => exact absurd HA.out (by simp [palinglaw14_GraphAbove.l0])
            | succ k2 =>
              have H := HA.out
              clear HA
              simp only [palinglaw14_GraphAbove.l0] at H
              by_cases c14 : x7_2 < (l0.length : Int)
              · rw [if_pos c14] at H
                have c14b0 : decide (x7_2 < (l0.length : Int)) = true := decide_eq_true c14
                clear c14
                have HC15 := Aside0.mk H
                clear H
                go_upto_region 12 with (fail)
                repeat (go_quiet (fail); go_upto_region 12 with (fail))
                go_cut [80] (fun v80 wc => ∃ (kq : Nat) (x80_14 : Bool), v80 = .bool x80_14 ∧ Aside0 (palinglaw14_GraphAbove.j2 kq l0 t179 t182 t185 x7_2 x80_14 = some r) ∧ Aside0 (kq ≤ k2) ∧ Aside0 (Kd.R Kd.bool 4 wc w.heap.size (fun _ => True) v180 t179) ∧ Aside0 (Kd.S (Kd.slice 4 Kd.bool) 25 wc w.heap.size (fun k_ => some k_ ≠ (v180 : Value).ownBlock) v183 t182) ∧ Aside0 (Kd.S (Kd.slice 3 (Kd.int .i64)) 34 wc w.heap.size (fun _ => True) v186 t185) ∧ Aside0 (Below w.heap.size w wc))
                case first =>
                  have H := HC15.out
                  clear HC15
                  by_cases c16 : 0 ≤ x7_2
                  · rw [if_pos c16] at H
                    have c16b0 : decide (0 ≤ x7_2) = true := decide_eq_true c16
                    clear c16
                    (first | rw [c16b0] | (simp only [i64_w, i32_w]; rw [c16b0]) | skip)
                    by_cases c17 : x7_2 < (t182.length : Int)
                    · rw [if_pos c17] at H
                      have c17b0 : decide (x7_2 < (t182.length : Int)) = true := decide_eq_true c17
                      clear c17
                      by_cases c18 : 0 < ((rd_L7 t182 x7_2).length : Int)
                      · rw [if_pos c18] at H
                        have c18b0 : decide (0 < ((rd_L7 t182 x7_2).length : Int)) = true := decide_eq_true c18
                        have c18b1 : decide (0 < (rd_L7 t182 x7_2).length) = true := decide_eq_true (by omega)
                        clear c18
                        by_cases c19 : x7_2 < (t179.length : Int)
                        · rw [if_pos c19] at H
                          have c19b0 : decide (x7_2 < (t179.length : Int)) = true := decide_eq_true c19
                          clear c19
                          by_cases c20 : ((rdOf false (rd_L7 t182 x7_2) 0) != (rdOf false t179 x7_2)) = true
                          · rw [if_pos c20] at H
                            have c20b0 : ((rdOf false (rd_L7 t182 x7_2) 0) != (rdOf false t179 x7_2)) = true := c20
                            (try (have c20b1 : decide ((rdOf false (rd_L7 t182 x7_2) 0) = (rdOf false t179 x7_2)) = false := by simpa using c20))
                            (try (have c20b2 : ((rdOf false (rd_L7 t182 x7_2) 0) == (rdOf false t179 x7_2)) = false := by simpa using c20))
                            (try (have c20b3 : ¬ ((rdOf false (rd_L7 t182 x7_2) 0) = (rdOf false t179 x7_2)) := by simpa using c20))
                            clear c20
                            have H' := Aside0.mk H
                            clear H
                            obtain ⟨Ao21, co21, eo21⟩ := Kd.S_slice HO_5.out
                            subst eo21
                            have p188 : 0 ≤ (x7_2 : Int) := of_decide_eq_true (by first | (with_reducible assumption) | assumption)
                            have q188 : x7_2 < (t182.length : Int) := of_decide_eq_true (by first | (with_reducible assumption) | assumption)
                            obtain ⟨ad188, A188_0, c188_0, e188, hx188_0, hl188_0, hi188_0⟩ := at_L7 (Kd.S_reads' HO_5.out).2.2 x7_2 p188 q188
                            cases e188
                            obtain ⟨ce188, hce188, hMe188, hcc188⟩ := Kd.S_get HO_5.out [] x7_2 p188 (by first | exact q188 | exact of_decide_eq_true (by first | (with_reducible assumption) | assumption) | (have e_ := (Kd.S_reads' HO_5.out).1; omega))
                            obtain ⟨ve188_0, rfl, ge188_0⟩ := hMe188
                            have hv188_0 := hcc188 0 _ rfl
                            rw [Nat.add_zero, show ((Kd.slice 4 Kd.bool)).sz = 1 from rfl, Nat.mul_one] at hv188_0
                            replace hv188_0 := Option.some.inj (hv188_0.symm.trans hx188_0)
                            rw [hv188_0] at ge188_0
                            have HL188_0 := Aside0.mk (show Kd.R Kd.bool 4 _ _ _ _ (rd_L7 t182 x7_2) from ge188_0)
                            clear hv188_0 ge188_0
                            clear hcc188 hce188
                            have HR188_0 := Aside0.mk hi188_0
                            have HC188_0 := Aside0.mk hl188_0
                            clear hi188_0 hl188_0
                            replace p188 := eq_true p188
                            replace q188 := eq_true q188
                            have p189 : 0 ≤ (0 : Int) := (by omega)
                            have q189 : 0 < ((rd_L7 t182 x7_2).length : Int) := of_decide_eq_true (by first | (with_reducible assumption) | assumption)
                            obtain ⟨ad189, e189, hx189_0⟩ := Kd.at_bool (by repeat (first | (with_reducible exact HR188_0.out) | (with_reducible refine Kd.C_alloc ?_ _) | (with_reducible refine Kd.C_drewN ?_ _) | (with_reducible refine Kd.C_drew ?_) | exact HR188_0.out)) 0 p189 q189
                            cases e189
                            have qi189 : (0 < (rd_L7 t182 x7_2).length) = True := eq_true (by omega)
                            (try rw [show ((0 : Int)).toNat = 0 from rfl] at hx189_0)
                            (try rw [Addr.add_zero'] at hx189_0)
                            replace p189 := eq_true p189
                            replace q189 := eq_true q189
                            obtain ⟨Ao22, co22, eo22⟩ := Kd.R_slice HO_4.out
                            subst eo22
                            have p190 : 0 ≤ (x7_2 : Int) := of_decide_eq_true (by first | (with_reducible assumption) | assumption)
                            have q190 : x7_2 < (t179.length : Int) := of_decide_eq_true (by first | (with_reducible assumption) | assumption)
                            obtain ⟨ad190, e190, hx190_0⟩ := Kd.at_bool (Kd.R_reads' HO_4.out).2.2 x7_2 p190 q190
                            cases e190
                            replace p190 := eq_true p190
                            replace q190 := eq_true q190
                            go_wp2
                            repeat (go_quiet (fail); try go_wp2)
                            go_meet
                            case rel => exact ⟨_, (true), (by first | rfl | (simp; done) | (simp [*]; done)), H', ⟨by have := HJ3.out; have := HK2.out; first | omega | exact Nat.le_refl _⟩, ⟨by (with_reducible repeat (first | apply Kd.R_alloc | apply Kd.R_drewN | apply Kd.R_drew)); exact HO_4.out⟩, ⟨by (with_reducible repeat (first | apply Kd.S_alloc | apply Kd.S_drewN | apply Kd.S_drew)); exact HO_5.out⟩, ⟨by (with_reducible repeat (first | apply Kd.S_alloc | apply Kd.S_drewN | apply Kd.S_drew)); exact HO_6.out⟩, ⟨by repeat (first | (with_reducible first | exact HB.out | apply below_alloc | apply pw_below_drewN | apply below_drew1) | exact HB.out)⟩⟩
                          · rw [if_neg c20] at H
                            have c20b0 : ((rdOf false (rd_L7 t182 x7_2) 0) != (rdOf false t179 x7_2)) = false := by simpa using c20
                            (try (have c20b1 : decide ((rdOf false (rd_L7 t182 x7_2) 0) = (rdOf false t179 x7_2)) = true := by simpa using c20))
                            (try (have c20b2 : ((rdOf false (rd_L7 t182 x7_2) 0) == (rdOf false t179 x7_2)) = true := by simpa using c20))
                            clear c20
                            by_cases c23 : x7_2 < ((rd_L7 t182 x7_2).length : Int)
                            · rw [if_pos c23] at H
                              have c23b0 : decide (x7_2 < ((rd_L7 t182 x7_2).length : Int)) = true := decide_eq_true c23
                              clear c23
                              by_cases c24 : ((rdOf false (rd_L7 t182 x7_2) x7_2) != (rdOf false t179 x7_2)) = true
                              · rw [if_pos c24] at H
                                have c24b0 : ((rdOf false (rd_L7 t182 x7_2) x7_2) != (rdOf false t179 x7_2)) = true := c24
                                (try (have c24b1 : decide ((rdOf false (rd_L7 t182 x7_2) x7_2) = (rdOf false t179 x7_2)) = false := by simpa using c24))
                                (try (have c24b2 : ((rdOf false (rd_L7 t182 x7_2) x7_2) == (rdOf false t179 x7_2)) = false := by simpa using c24))
                                (try (have c24b3 : ¬ ((rdOf false (rd_L7 t182 x7_2) x7_2) = (rdOf false t179 x7_2)) := by simpa using c24))
                                clear c24
                                have H' := Aside0.mk H
                                clear H
                                obtain ⟨Ao25, co25, eo25⟩ := Kd.S_slice HO_5.out
                                subst eo25
                                have p188 : 0 ≤ (x7_2 : Int) := of_decide_eq_true (by first | (with_reducible assumption) | assumption)
                                have q188 : x7_2 < (t182.length : Int) := of_decide_eq_true (by first | (with_reducible assumption) | assumption)
                                obtain ⟨ad188, A188_0, c188_0, e188, hx188_0, hl188_0, hi188_0⟩ := at_L7 (Kd.S_reads' HO_5.out).2.2 x7_2 p188 q188
                                cases e188
                                obtain ⟨ce188, hce188, hMe188, hcc188⟩ := Kd.S_get HO_5.out [] x7_2 p188 (by first | exact q188 | exact of_decide_eq_true (by first | (with_reducible assumption) | assumption) | (have e_ := (Kd.S_reads' HO_5.out).1; omega))
                                obtain ⟨ve188_0, rfl, ge188_0⟩ := hMe188
                                have hv188_0 := hcc188 0 _ rfl
                                rw [Nat.add_zero, show ((Kd.slice 4 Kd.bool)).sz = 1 from rfl, Nat.mul_one] at hv188_0
                                replace hv188_0 := Option.some.inj (hv188_0.symm.trans hx188_0)
                                rw [hv188_0] at ge188_0
                                have HL188_0 := Aside0.mk (show Kd.R Kd.bool 4 _ _ _ _ (rd_L7 t182 x7_2) from ge188_0)
                                clear hv188_0 ge188_0
                                clear hcc188 hce188
                                have HR188_0 := Aside0.mk hi188_0
                                have HC188_0 := Aside0.mk hl188_0
                                clear hi188_0 hl188_0
                                replace p188 := eq_true p188
                                replace q188 := eq_true q188
                                have p189 : 0 ≤ (0 : Int) := (by omega)
                                have q189 : 0 < ((rd_L7 t182 x7_2).length : Int) := of_decide_eq_true (by first | (with_reducible assumption) | assumption)
                                obtain ⟨ad189, e189, hx189_0⟩ := Kd.at_bool (by repeat (first | (with_reducible exact HR188_0.out) | (with_reducible refine Kd.C_alloc ?_ _) | (with_reducible refine Kd.C_drewN ?_ _) | (with_reducible refine Kd.C_drew ?_) | exact HR188_0.out)) 0 p189 q189
                                cases e189
                                have qi189 : (0 < (rd_L7 t182 x7_2).length) = True := eq_true (by omega)
                                (try rw [show ((0 : Int)).toNat = 0 from rfl] at hx189_0)
                                (try rw [Addr.add_zero'] at hx189_0)
                                replace p189 := eq_true p189
                                replace q189 := eq_true q189
                                obtain ⟨Ao26, co26, eo26⟩ := Kd.R_slice HO_4.out
                                subst eo26
                                have p190 : 0 ≤ (x7_2 : Int) := of_decide_eq_true (by first | (with_reducible assumption) | assumption)
                                have q190 : x7_2 < (t179.length : Int) := of_decide_eq_true (by first | (with_reducible assumption) | assumption)
                                obtain ⟨ad190, e190, hx190_0⟩ := Kd.at_bool (Kd.R_reads' HO_4.out).2.2 x7_2 p190 q190
                                cases e190
                                replace p190 := eq_true p190
                                replace q190 := eq_true q190
                                have p191 : 0 ≤ (x7_2 : Int) := of_decide_eq_true (by first | (with_reducible assumption) | assumption)
                                have q191 : x7_2 < (t182.length : Int) := of_decide_eq_true (by first | (with_reducible assumption) | assumption)
                                obtain ⟨ad191, A191_0, c191_0, e191, hx191_0, hl191_0, hi191_0⟩ := at_L7 (Kd.S_reads' HO_5.out).2.2 x7_2 p191 q191
                                obtain rfl : ad188 = ad191 := (by injection e191)
                                obtain ⟨ce191, hce191, hMe191, hcc191⟩ := Kd.S_get HO_5.out [] x7_2 p191 (by first | exact q191 | exact of_decide_eq_true (by first | (with_reducible assumption) | assumption) | (have e_ := (Kd.S_reads' HO_5.out).1; omega))
                                obtain ⟨ve191_0, rfl, ge191_0⟩ := hMe191
                                have hv191_0 := hcc191 0 _ rfl
                                rw [Nat.add_zero, show ((Kd.slice 4 Kd.bool)).sz = 1 from rfl, Nat.mul_one] at hv191_0
                                replace hv191_0 := Option.some.inj (hv191_0.symm.trans hx191_0)
                                rw [hv191_0] at ge191_0
                                have HL191_0 := Aside0.mk (show Kd.R Kd.bool 4 _ _ _ _ (rd_L7 t182 x7_2) from ge191_0)
                                clear hv191_0 ge191_0
                                clear hcc191 hce191
                                have HR191_0 := Aside0.mk hi191_0
                                have HC191_0 := Aside0.mk hl191_0
                                clear hi191_0 hl191_0
                                replace p191 := eq_true p191
                                replace q191 := eq_true q191
                                have ea_ := Option.some.inj (hx188_0.symm.trans hx191_0)
                                injection ea_ with ea_ en_ ec_
                                subst ea_
                                subst ec_
                                clear en_
                                have p192 : 0 ≤ (x7_2 : Int) := of_decide_eq_true (by first | (with_reducible assumption) | assumption)
                                have q192 : x7_2 < ((rd_L7 t182 x7_2).length : Int) := of_decide_eq_true (by first | (with_reducible assumption) | assumption)
                                obtain ⟨ad192, e192, hx192_0⟩ := Kd.at_bool (by repeat (first | (with_reducible exact HR191_0.out) | (with_reducible refine Kd.C_alloc ?_ _) | (with_reducible refine Kd.C_drewN ?_ _) | (with_reducible refine Kd.C_drew ?_) | exact HR191_0.out)) x7_2 p192 q192
                                cases e192
                                replace p192 := eq_true p192
                                replace q192 := eq_true q192
                                have p193 : 0 ≤ (x7_2 : Int) := of_decide_eq_true (by first | (with_reducible assumption) | assumption)
                                have q193 : x7_2 < (t179.length : Int) := of_decide_eq_true (by first | (with_reducible assumption) | assumption)
                                obtain ⟨ad193, e193, hx193_0⟩ := Kd.at_bool (Kd.R_reads' HO_4.out).2.2 x7_2 p193 q193
                                obtain rfl : ad190 = ad193 := (by injection e193)
                                replace p193 := eq_true p193
                                replace q193 := eq_true q193
                                go_wp2
                                repeat (go_quiet (fail); try go_wp2)
                                go_meet
                                case rel => exact ⟨_, (true), (by first | rfl | (simp; done) | (simp [*]; done)), H', ⟨by have := HJ3.out; have := HK2.out; first | omega | exact Nat.le_refl _⟩, ⟨by (with_reducible repeat (first | apply Kd.R_alloc | apply Kd.R_drewN | apply Kd.R_drew)); exact HO_4.out⟩, ⟨by (with_reducible repeat (first | apply Kd.S_alloc | apply Kd.S_drewN | apply Kd.S_drew)); exact HO_5.out⟩, ⟨by (with_reducible repeat (first | apply Kd.S_alloc | apply Kd.S_drewN | apply Kd.S_drew)); exact HO_6.out⟩, ⟨by repeat (first | (with_reducible first | exact HB.out | apply below_alloc | apply pw_below_drewN | apply below_drew1) | exact HB.out)⟩⟩
                              · rw [if_neg c24] at H
                                have c24b0 : ((rdOf false (rd_L7 t182 x7_2) x7_2) != (rdOf false t179 x7_2)) = false := by simpa using c24
                                (try (have c24b1 : decide ((rdOf false (rd_L7 t182 x7_2) x7_2) = (rdOf false t179 x7_2)) = true := by simpa using c24))
                                (try (have c24b2 : ((rdOf false (rd_L7 t182 x7_2) x7_2) == (rdOf false t179 x7_2)) = true := by simpa using c24))
                                clear c24
                                by_cases c27 : x7_2 = 0
                                · rw [if_pos c27] at H
                                  have c27b0 : (x7_2 == 0) = true := beq_iff_eq.mpr c27
                                  have c27b1 : (x7_2 != 0) = false := bne_eq_false_iff_eq.mpr c27
                                  clear c27
                                  have H' := Aside0.mk H
                                  clear H
                                  obtain ⟨Ao28, co28, eo28⟩ := Kd.S_slice HO_5.out
                                  subst eo28
                                  have p188 : 0 ≤ (x7_2 : Int) := of_decide_eq_true (by first | (with_reducible assumption) | assumption)
                                  have q188 : x7_2 < (t182.length : Int) := of_decide_eq_true (by first | (with_reducible assumption) | assumption)
                                  obtain ⟨ad188, A188_0, c188_0, e188, hx188_0, hl188_0, hi188_0⟩ := at_L7 (Kd.S_reads' HO_5.out).2.2 x7_2 p188 q188
                                  cases e188
                                  obtain ⟨ce188, hce188, hMe188, hcc188⟩ := Kd.S_get HO_5.out [] x7_2 p188 (by first | exact q188 | exact of_decide_eq_true (by first | (with_reducible assumption) | assumption) | (have e_ := (Kd.S_reads' HO_5.out).1; omega))
                                  obtain ⟨ve188_0, rfl, ge188_0⟩ := hMe188
                                  have hv188_0 := hcc188 0 _ rfl
                                  rw [Nat.add_zero, show ((Kd.slice 4 Kd.bool)).sz = 1 from rfl, Nat.mul_one] at hv188_0
                                  replace hv188_0 := Option.some.inj (hv188_0.symm.trans hx188_0)
                                  rw [hv188_0] at ge188_0
                                  have HL188_0 := Aside0.mk (show Kd.R Kd.bool 4 _ _ _ _ (rd_L7 t182 x7_2) from ge188_0)
                                  clear hv188_0 ge188_0
                                  clear hcc188 hce188
                                  have HR188_0 := Aside0.mk hi188_0
                                  have HC188_0 := Aside0.mk hl188_0
                                  clear hi188_0 hl188_0
                                  replace p188 := eq_true p188
                                  replace q188 := eq_true q188
                                  have p189 : 0 ≤ (0 : Int) := (by omega)
                                  have q189 : 0 < ((rd_L7 t182 x7_2).length : Int) := of_decide_eq_true (by first | (with_reducible assumption) | assumption)
                                  obtain ⟨ad189, e189, hx189_0⟩ := Kd.at_bool (by repeat (first | (with_reducible exact HR188_0.out) | (with_reducible refine Kd.C_alloc ?_ _) | (with_reducible refine Kd.C_drewN ?_ _) | (with_reducible refine Kd.C_drew ?_) | exact HR188_0.out)) 0 p189 q189
                                  cases e189
                                  have qi189 : (0 < (rd_L7 t182 x7_2).length) = True := eq_true (by omega)
                                  (try rw [show ((0 : Int)).toNat = 0 from rfl] at hx189_0)
                                  (try rw [Addr.add_zero'] at hx189_0)
                                  replace p189 := eq_true p189
                                  replace q189 := eq_true q189
                                  obtain ⟨Ao29, co29, eo29⟩ := Kd.R_slice HO_4.out
                                  subst eo29
                                  have p190 : 0 ≤ (x7_2 : Int) := of_decide_eq_true (by first | (with_reducible assumption) | assumption)
                                  have q190 : x7_2 < (t179.length : Int) := of_decide_eq_true (by first | (with_reducible assumption) | assumption)
                                  obtain ⟨ad190, e190, hx190_0⟩ := Kd.at_bool (Kd.R_reads' HO_4.out).2.2 x7_2 p190 q190
                                  cases e190
                                  replace p190 := eq_true p190
                                  replace q190 := eq_true q190
                                  have p191 : 0 ≤ (x7_2 : Int) := of_decide_eq_true (by first | (with_reducible assumption) | assumption)
                                  have q191 : x7_2 < (t182.length : Int) := of_decide_eq_true (by first | (with_reducible assumption) | assumption)
                                  obtain ⟨ad191, A191_0, c191_0, e191, hx191_0, hl191_0, hi191_0⟩ := at_L7 (Kd.S_reads' HO_5.out).2.2 x7_2 p191 q191
                                  obtain rfl : ad188 = ad191 := (by injection e191)
                                  obtain ⟨ce191, hce191, hMe191, hcc191⟩ := Kd.S_get HO_5.out [] x7_2 p191 (by first | exact q191 | exact of_decide_eq_true (by first | (with_reducible assumption) | assumption) | (have e_ := (Kd.S_reads' HO_5.out).1; omega))
                                  obtain ⟨ve191_0, rfl, ge191_0⟩ := hMe191
                                  have hv191_0 := hcc191 0 _ rfl
                                  rw [Nat.add_zero, show ((Kd.slice 4 Kd.bool)).sz = 1 from rfl, Nat.mul_one] at hv191_0
                                  replace hv191_0 := Option.some.inj (hv191_0.symm.trans hx191_0)
                                  rw [hv191_0] at ge191_0
                                  have HL191_0 := Aside0.mk (show Kd.R Kd.bool 4 _ _ _ _ (rd_L7 t182 x7_2) from ge191_0)
                                  clear hv191_0 ge191_0
                                  clear hcc191 hce191
                                  have HR191_0 := Aside0.mk hi191_0
                                  have HC191_0 := Aside0.mk hl191_0
                                  clear hi191_0 hl191_0
                                  replace p191 := eq_true p191
                                  replace q191 := eq_true q191
                                  have ea_ := Option.some.inj (hx188_0.symm.trans hx191_0)
                                  injection ea_ with ea_ en_ ec_
                                  subst ea_
                                  subst ec_
                                  clear en_
                                  have p192 : 0 ≤ (x7_2 : Int) := of_decide_eq_true (by first | (with_reducible assumption) | assumption)
                                  have q192 : x7_2 < ((rd_L7 t182 x7_2).length : Int) := of_decide_eq_true (by first | (with_reducible assumption) | assumption)
                                  obtain ⟨ad192, e192, hx192_0⟩ := Kd.at_bool (by repeat (first | (with_reducible exact HR191_0.out) | (with_reducible refine Kd.C_alloc ?_ _) | (with_reducible refine Kd.C_drewN ?_ _) | (with_reducible refine Kd.C_drew ?_) | exact HR191_0.out)) x7_2 p192 q192
                                  cases e192
                                  replace p192 := eq_true p192
                                  replace q192 := eq_true q192
                                  have p193 : 0 ≤ (x7_2 : Int) := of_decide_eq_true (by first | (with_reducible assumption) | assumption)
                                  have q193 : x7_2 < (t179.length : Int) := of_decide_eq_true (by first | (with_reducible assumption) | assumption)
                                  obtain ⟨ad193, e193, hx193_0⟩ := Kd.at_bool (Kd.R_reads' HO_4.out).2.2 x7_2 p193 q193
                                  obtain rfl : ad190 = ad193 := (by injection e193)
                                  replace p193 := eq_true p193
                                  replace q193 := eq_true q193
                                  have p194 : 0 ≤ (x7_2 : Int) := of_decide_eq_true (by first | (with_reducible assumption) | assumption)
                                  have q194 : x7_2 < (t179.length : Int) := of_decide_eq_true (by first | (with_reducible assumption) | assumption)
                                  obtain ⟨ad194, e194, hx194_0⟩ := Kd.at_bool (Kd.R_reads' HO_4.out).2.2 x7_2 p194 q194
                                  obtain rfl : ad190 = ad194 := (by injection e194)
                                  replace p194 := eq_true p194
                                  replace q194 := eq_true q194
                                  go_wp2
                                  repeat (go_quiet (fail); try go_wp2)
                                  go_meet
                                  case rel => exact ⟨_, (((rdOf false t179 x7_2) != true)), (by first | rfl | (simp; done) | (simp [*]; done)), H', ⟨by have := HJ3.out; have := HK2.out; first | omega | exact Nat.le_refl _⟩, ⟨by (with_reducible repeat (first | apply Kd.R_alloc | apply Kd.R_drewN | apply Kd.R_drew)); exact HO_4.out⟩, ⟨by (with_reducible repeat (first | apply Kd.S_alloc | apply Kd.S_drewN | apply Kd.S_drew)); exact HO_5.out⟩, ⟨by (with_reducible repeat (first | apply Kd.S_alloc | apply Kd.S_drewN | apply Kd.S_drew)); exact HO_6.out⟩, ⟨by repeat (first | (with_reducible first | exact HB.out | apply below_alloc | apply pw_below_drewN | apply below_drew1) | exact HB.out)⟩⟩
                                · rw [if_neg c27] at H
                                  have c27b0 : (x7_2 == 0) = false := beq_eq_false_iff_ne.mpr c27
                                  have c27b1 : (x7_2 != 0) = true := bne_iff_ne.mpr c27
                                  by_cases c30 : x7_2 < (t185.length : Int)
                                  · rw [if_pos c30] at H
                                    have c30b0 : decide (x7_2 < (t185.length : Int)) = true := decide_eq_true c30
                                    clear c30
                                    have H' := Aside0.mk H
                                    clear H
                                    obtain ⟨Ao31, co31, eo31⟩ := Kd.S_slice HO_5.out
                                    subst eo31
                                    have p188 : 0 ≤ (x7_2 : Int) := of_decide_eq_true (by first | (with_reducible assumption) | assumption)
                                    have q188 : x7_2 < (t182.length : Int) := of_decide_eq_true (by first | (with_reducible assumption) | assumption)
                                    obtain ⟨ad188, A188_0, c188_0, e188, hx188_0, hl188_0, hi188_0⟩ := at_L7 (Kd.S_reads' HO_5.out).2.2 x7_2 p188 q188
                                    cases e188
                                    obtain ⟨ce188, hce188, hMe188, hcc188⟩ := Kd.S_get HO_5.out [] x7_2 p188 (by first | exact q188 | exact of_decide_eq_true (by first | (with_reducible assumption) | assumption) | (have e_ := (Kd.S_reads' HO_5.out).1; omega))
                                    obtain ⟨ve188_0, rfl, ge188_0⟩ := hMe188
                                    have hv188_0 := hcc188 0 _ rfl
                                    rw [Nat.add_zero, show ((Kd.slice 4 Kd.bool)).sz = 1 from rfl, Nat.mul_one] at hv188_0
                                    replace hv188_0 := Option.some.inj (hv188_0.symm.trans hx188_0)
                                    rw [hv188_0] at ge188_0
                                    have HL188_0 := Aside0.mk (show Kd.R Kd.bool 4 _ _ _ _ (rd_L7 t182 x7_2) from ge188_0)
                                    clear hv188_0 ge188_0
                                    clear hcc188 hce188
                                    have HR188_0 := Aside0.mk hi188_0
                                    have HC188_0 := Aside0.mk hl188_0
                                    clear hi188_0 hl188_0
                                    replace p188 := eq_true p188
                                    replace q188 := eq_true q188
                                    have p189 : 0 ≤ (0 : Int) := (by omega)
                                    have q189 : 0 < ((rd_L7 t182 x7_2).length : Int) := of_decide_eq_true (by first | (with_reducible assumption) | assumption)
                                    obtain ⟨ad189, e189, hx189_0⟩ := Kd.at_bool (by repeat (first | (with_reducible exact HR188_0.out) | (with_reducible refine Kd.C_alloc ?_ _) | (with_reducible refine Kd.C_drewN ?_ _) | (with_reducible refine Kd.C_drew ?_) | exact HR188_0.out)) 0 p189 q189
                                    cases e189
                                    have qi189 : (0 < (rd_L7 t182 x7_2).length) = True := eq_true (by omega)
                                    (try rw [show ((0 : Int)).toNat = 0 from rfl] at hx189_0)
                                    (try rw [Addr.add_zero'] at hx189_0)
                                    replace p189 := eq_true p189
                                    replace q189 := eq_true q189
                                    obtain ⟨Ao32, co32, eo32⟩ := Kd.R_slice HO_4.out
                                    subst eo32
                                    have p190 : 0 ≤ (x7_2 : Int) := of_decide_eq_true (by first | (with_reducible assumption) | assumption)
                                    have q190 : x7_2 < (t179.length : Int) := of_decide_eq_true (by first | (with_reducible assumption) | assumption)
                                    obtain ⟨ad190, e190, hx190_0⟩ := Kd.at_bool (Kd.R_reads' HO_4.out).2.2 x7_2 p190 q190
                                    cases e190
                                    replace p190 := eq_true p190
                                    replace q190 := eq_true q190
                                    have p191 : 0 ≤ (x7_2 : Int) := of_decide_eq_true (by first | (with_reducible assumption) | assumption)
                                    have q191 : x7_2 < (t182.length : Int) := of_decide_eq_true (by first | (with_reducible assumption) | assumption)
                                    obtain ⟨ad191, A191_0, c191_0, e191, hx191_0, hl191_0, hi191_0⟩ := at_L7 (Kd.S_reads' HO_5.out).2.2 x7_2 p191 q191
                                    obtain rfl : ad188 = ad191 := (by injection e191)
                                    obtain ⟨ce191, hce191, hMe191, hcc191⟩ := Kd.S_get HO_5.out [] x7_2 p191 (by first | exact q191 | exact of_decide_eq_true (by first | (with_reducible assumption) | assumption) | (have e_ := (Kd.S_reads' HO_5.out).1; omega))
                                    obtain ⟨ve191_0, rfl, ge191_0⟩ := hMe191
                                    have hv191_0 := hcc191 0 _ rfl
                                    rw [Nat.add_zero, show ((Kd.slice 4 Kd.bool)).sz = 1 from rfl, Nat.mul_one] at hv191_0
                                    replace hv191_0 := Option.some.inj (hv191_0.symm.trans hx191_0)
                                    rw [hv191_0] at ge191_0
                                    have HL191_0 := Aside0.mk (show Kd.R Kd.bool 4 _ _ _ _ (rd_L7 t182 x7_2) from ge191_0)
                                    clear hv191_0 ge191_0
                                    clear hcc191 hce191
                                    have HR191_0 := Aside0.mk hi191_0
                                    have HC191_0 := Aside0.mk hl191_0
                                    clear hi191_0 hl191_0
                                    replace p191 := eq_true p191
                                    replace q191 := eq_true q191
                                    have ea_ := Option.some.inj (hx188_0.symm.trans hx191_0)
                                    injection ea_ with ea_ en_ ec_
                                    subst ea_
                                    subst ec_
                                    clear en_
                                    have p192 : 0 ≤ (x7_2 : Int) := of_decide_eq_true (by first | (with_reducible assumption) | assumption)
                                    have q192 : x7_2 < ((rd_L7 t182 x7_2).length : Int) := of_decide_eq_true (by first | (with_reducible assumption) | assumption)
                                    obtain ⟨ad192, e192, hx192_0⟩ := Kd.at_bool (by repeat (first | (with_reducible exact HR191_0.out) | (with_reducible refine Kd.C_alloc ?_ _) | (with_reducible refine Kd.C_drewN ?_ _) | (with_reducible refine Kd.C_drew ?_) | exact HR191_0.out)) x7_2 p192 q192
                                    cases e192
                                    replace p192 := eq_true p192
                                    replace q192 := eq_true q192
                                    have p193 : 0 ≤ (x7_2 : Int) := of_decide_eq_true (by first | (with_reducible assumption) | assumption)
                                    have q193 : x7_2 < (t179.length : Int) := of_decide_eq_true (by first | (with_reducible assumption) | assumption)
                                    obtain ⟨ad193, e193, hx193_0⟩ := Kd.at_bool (Kd.R_reads' HO_4.out).2.2 x7_2 p193 q193
                                    obtain rfl : ad190 = ad193 := (by injection e193)
                                    replace p193 := eq_true p193
                                    replace q193 := eq_true q193
                                    have p194 : 0 ≤ (x7_2 : Int) := of_decide_eq_true (by first | (with_reducible assumption) | assumption)
                                    have q194 : x7_2 < (t179.length : Int) := of_decide_eq_true (by first | (with_reducible assumption) | assumption)
                                    obtain ⟨ad194, e194, hx194_0⟩ := Kd.at_bool (Kd.R_reads' HO_4.out).2.2 x7_2 p194 q194
                                    obtain rfl : ad190 = ad194 := (by injection e194)
                                    replace p194 := eq_true p194
                                    replace q194 := eq_true q194
                                    obtain ⟨Ao33, co33, eo33⟩ := Kd.S_slice HO_6.out
                                    subst eo33
                                    have p195 : 0 ≤ (x7_2 : Int) := of_decide_eq_true (by first | (with_reducible assumption) | assumption)
                                    have q195 : x7_2 < (t185.length : Int) := of_decide_eq_true (by first | (with_reducible assumption) | assumption)
                                    obtain ⟨ad195, A195_0, c195_0, e195, hx195_0, hl195_0, hi195_0⟩ := at_L5 (Kd.S_reads' HO_6.out).2.2 x7_2 p195 q195
                                    cases e195
                                    obtain ⟨ce195, hce195, hMe195, hcc195⟩ := Kd.S_get HO_6.out [] x7_2 p195 (by first | exact q195 | exact of_decide_eq_true (by first | (with_reducible assumption) | assumption) | (have e_ := (Kd.S_reads' HO_6.out).1; omega))
                                    obtain ⟨ve195_0, rfl, ge195_0⟩ := hMe195
                                    have hv195_0 := hcc195 0 _ rfl
                                    rw [Nat.add_zero, show ((Kd.slice 3 (Kd.int .i64))).sz = 1 from rfl, Nat.mul_one] at hv195_0
                                    replace hv195_0 := Option.some.inj (hv195_0.symm.trans hx195_0)
                                    rw [hv195_0] at ge195_0
                                    have HL195_0 := Aside0.mk (show Kd.R (Kd.int .i64) 3 _ _ _ _ (rd_L5 t185 x7_2) from ge195_0)
                                    clear hv195_0 ge195_0
                                    clear hcc195 hce195
                                    have HR195_0 := Aside0.mk hi195_0
                                    have HC195_0 := Aside0.mk hl195_0
                                    clear hi195_0 hl195_0
                                    replace p195 := eq_true p195
                                    replace q195 := eq_true q195
                                    go_wp2
                                    repeat (go_quiet (fail); try go_wp2)
                                    go_meet
                                    case rel => exact ⟨_, (((rdOf false t179 x7_2) != (decide (((rd_L5 t185 x7_2).length : Int) > 0)))), (by first | rfl | (simp [bne]; done) | (simp; done) | (simp [*]; done)), H', ⟨by have := HJ3.out; have := HK2.out; first | omega | exact Nat.le_refl _⟩, ⟨by (with_reducible repeat (first | apply Kd.R_alloc | apply Kd.R_drewN | apply Kd.R_drew)); exact HO_4.out⟩, ⟨by (with_reducible repeat (first | apply Kd.S_alloc | apply Kd.S_drewN | apply Kd.S_drew)); exact HO_5.out⟩, ⟨by (with_reducible repeat (first | apply Kd.S_alloc | apply Kd.S_drewN | apply Kd.S_drew)); exact HO_6.out⟩, ⟨by repeat (first | (with_reducible first | exact HB.out | apply below_alloc | apply pw_below_drewN | apply below_drew1) | exact HB.out)⟩⟩
                                  · rw [if_neg c30] at H
                                    exact absurd H (by simp)
                            · rw [if_neg c23] at H
                              exact absurd H (by simp)
                        · rw [if_neg c19] at H
                          exact absurd H (by simp)
                      · rw [if_neg c18] at H
                        exact absurd H (by simp)
                    · rw [if_neg c17] at H
                      exact absurd H (by simp)
                  · rw [if_neg c16] at H
                    exact absurd H (by simp)
                case rest =>
                  clear HC15
                  try clear c1
                  try clear p1
                  try clear q1
                  try clear hx1
                  try clear qi1
                  try clear c2
                  try clear p2
                  try clear c3
                  try clear c5
                  try clear c6
                  try clear c6b0
                  try clear c6b1
                  try clear c7
                  try clear c14
                  try clear c14b0
                  try clear c16
                  try clear c16b0
                  try clear c17
                  try clear c17b0
                  try clear c18
                  try clear c18b0
                  try clear c18b1
                  try clear p18
                  try clear q18
                  try clear hx18
                  try clear qi18
                  try clear c19
                  try clear c19b0
                  try clear p19
                  try clear q19
                  try clear hx19
                  try clear c20
                  try clear c20b0
                  try clear c20b1
                  try clear c20b2
                  try clear c23
                  try clear c23b0
                  try clear c24
                  try clear c24b0
                  try clear c24b1
                  try clear c24b2
                  try clear c27
                  try clear c27b0
                  try clear c27b1
                  try clear c30
                  try clear c30b0
                  try clear hx188_0
                  try clear hx189_0
                  try clear hx190_0
                  try clear hx191_0
                  try clear hx192_0
                  try clear hx193_0
                  try clear hx194_0
                  try clear hx195_0
                  try clear p188
                  try clear p189
                  try clear p190
                  try clear p191
                  try clear p192
                  try clear p193
                  try clear p194
                  try clear p195
                  try clear p2
                  try clear q188
                  try clear q189
                  try clear q190
                  try clear q191
                  try clear q192
                  try clear q193
                  try clear q194
                  try clear q195
                  obtain ⟨kq, x80_14, rfl, HA, HJ14, HO_4, HO_5, HO_6, HB⟩ := hcut
                  cases kq with
                  | zero => exact absurd HA.out (by simp [palinglaw14_GraphAbove.j2])
                  | succ kj14 =>
                    have H := HA.out
                    clear HA
                    simp only [palinglaw14_GraphAbove.j2] at H
                    by_cases c34 : x80_14 = true
                    · subst c34
                      have H1 : (some false) = some r := by rw [if_pos rfl] at H; exact H
                      clear H
                      have H := H1
                      clear H1
                      obtain rfl := Option.some.inj H
                      go_wp2
                      repeat (go_quiet (fail); try go_wp2)
                      go_ret
                      exact ⟨by first | rfl | (simp [errW_none, errW_some] <;> rfl) | (simp [*, errW_none, errW_some] <;> rfl), by repeat (first | (with_reducible first | exact HB.out | apply below_alloc | apply pw_below_drewN | apply below_drew1) | exact HB.out)⟩
                    · replace c34 := Bool.eq_false_iff.mpr c34
                      subst c34
                      have H1 : (palinglaw14_GraphAbove.l1 kj14 l0 t179 t182 t185 x7_2 0) = some r := by rw [if_neg (show ¬ (false = true) by decide)] at H; exact H
                      clear H
                      have H := H1
                      clear H1
                      have H' := Aside0.mk H
                      clear H
                      go_wp2
                      repeat (go_quiet (fail); try go_wp2)
                      go_loopg [8] kj14 (fun kq v8 w' => ∃ (x8_4 : Int), v8 = .int .i64 x8_4 ∧ Aside0 (palinglaw14_GraphAbove.l1 kq l0 t179 t182 t185 x7_2 x8_4 = some r) ∧ Aside0 (kq ≤ kj14) ∧ Aside0 (Kd.R Kd.bool 4 w' w.heap.size (fun _ => True) v180 t179) ∧ Aside0 (Kd.S (Kd.slice 4 Kd.bool) 25 w' w.heap.size (fun k_ => some k_ ≠ (v180 : Value).ownBlock) v183 t182) ∧ Aside0 (Kd.S (Kd.slice 3 (Kd.int .i64)) 34 w' w.heap.size (fun _ => True) v186 t185) ∧ Aside0 (Below w.heap.size w w'))
                      case atStart => exact ⟨(0), (by first | rfl | (simp; done) | (simp [*]; done)), H', ⟨Nat.le_refl _⟩, ⟨by (with_reducible repeat (first | apply Kd.R_alloc | apply Kd.R_drewN | apply Kd.R_drew)); exact HO_4.out⟩, ⟨by (with_reducible repeat (first | apply Kd.S_alloc | apply Kd.S_drewN | apply Kd.S_drew)); exact HO_5.out⟩, ⟨by (with_reducible repeat (first | apply Kd.S_alloc | apply Kd.S_drewN | apply Kd.S_drew)); exact HO_6.out⟩, ⟨by repeat (first | (with_reducible first | exact HB.out | apply below_alloc | apply pw_below_drewN | apply below_drew1) | exact HB.out)⟩⟩
                      case round =>
                        as_aux_lemma =>
                        clear H'
                        try clear c1
                        try clear p1
                        try clear q1
                        try clear hx1
                        try clear qi1
                        try clear c2
                        try clear p2
                        try clear c3
                        try clear c5
                        try clear c6
                        try clear c6b0
                        try clear c6b1
                        try clear c7
                        try clear c14
                        try clear c14b0
                        try clear c16
                        try clear c16b0
                        try clear c17
                        try clear c17b0
                        try clear c18
                        try clear c18b0
                        try clear c18b1
                        try clear p18
                        try clear q18
                        try clear hx18
                        try clear qi18
                        try clear c19
                        try clear c19b0
                        try clear p19
                        try clear q19
                        try clear hx19
                        try clear c20
                        try clear c20b0
                        try clear c20b1
                        try clear c20b2
                        try clear c23
                        try clear c23b0
                        try clear c24
                        try clear c24b0
                        try clear c24b1
                        try clear c24b2
                        try clear c27
                        try clear c27b0
                        try clear c27b1
                        try clear c30
                        try clear c30b0
                        try clear c34
                        try clear hx188_0
                        try clear hx189_0
                        try clear hx190_0
                        try clear hx191_0
                        try clear hx192_0
                        try clear hx193_0
                        try clear hx194_0
                        try clear hx195_0
                        try clear p1
                        try clear p18
                        try clear p188
                        try clear p189
                        try clear p19
                        try clear p190
                        try clear p191
                        try clear p192
                        try clear p193
                        try clear p194
                        try clear p195
                        try clear p2
                        try clear q1
                        try clear q18
                        try clear q188
                        try clear q189
                        try clear q19
                        try clear q190
                        try clear q191
                        try clear q192
                        try clear q193
                        try clear q194
                        try clear q195
                        obtain ⟨x8_4, rfl, HA, HK4, HO_4, HO_5, HO_6, HB⟩ := hrel
                        cases gk with
                        | zero => exact absurd HA.out (by simp [palinglaw14_GraphAbove.l1])
                        | succ k4 =>
                          have H := HA.out
                          clear HA
                          simp only [palinglaw14_GraphAbove.l1] at H
                          by_cases c35 : x8_4 < (l0.length : Int)
                          · rw [if_pos c35] at H
                            have c35b0 : decide (x8_4 < (l0.length : Int)) = true := decide_eq_true c35
                            clear c35
                            have H' := Aside0.mk H
                            clear H
                            go_wp2
                            repeat (go_quiet (fail); try go_wp2)
                            go_loopg [9] k4 (fun kq v9 w' => ∃ (x9_5 : Int), v9 = .int .i64 x9_5 ∧ Aside0 (palinglaw14_GraphAbove.l2 kq l0 t179 t182 t185 x7_2 x8_4 x9_5 = some r) ∧ Aside0 (kq ≤ k4) ∧ Aside0 (Kd.R Kd.bool 4 w' w.heap.size (fun _ => True) v180 t179) ∧ Aside0 (Kd.S (Kd.slice 4 Kd.bool) 25 w' w.heap.size (fun k_ => some k_ ≠ (v180 : Value).ownBlock) v183 t182) ∧ Aside0 (Kd.S (Kd.slice 3 (Kd.int .i64)) 34 w' w.heap.size (fun _ => True) v186 t185) ∧ Aside0 (Below w.heap.size w w'))
                            case atStart => exact ⟨(0), (by first | rfl | (simp; done) | (simp [*]; done)), H', ⟨Nat.le_refl _⟩, ⟨by (with_reducible repeat (first | apply Kd.R_alloc | apply Kd.R_drewN | apply Kd.R_drew)); exact HO_4.out⟩, ⟨by (with_reducible repeat (first | apply Kd.S_alloc | apply Kd.S_drewN | apply Kd.S_drew)); exact HO_5.out⟩, ⟨by (with_reducible repeat (first | apply Kd.S_alloc | apply Kd.S_drewN | apply Kd.S_drew)); exact HO_6.out⟩, ⟨by repeat (first | (with_reducible first | exact HB.out | apply below_alloc | apply pw_below_drewN | apply below_drew1) | exact HB.out)⟩⟩
                            case round =>
                              as_aux_lemma =>
                              clear H'
                              try clear c1
                              try clear p1
                              try clear q1
                              try clear hx1
                              try clear qi1
                              try clear c2
                              try clear p2
                              try clear c3
                              try clear c5
                              try clear c6
                              try clear c6b0
                              try clear c6b1
                              try clear c7
                              try clear c14
                              try clear c14b0
                              try clear c16
                              try clear c16b0
                              try clear c17
                              try clear c17b0
                              try clear c18
                              try clear c18b0
                              try clear c18b1
                              try clear p18
                              try clear q18
                              try clear hx18
                              try clear qi18
                              try clear c19
                              try clear c19b0
                              try clear p19
                              try clear q19
                              try clear hx19
                              try clear c20
                              try clear c20b0
                              try clear c20b1
                              try clear c20b2
                              try clear c23
                              try clear c23b0
                              try clear c24
                              try clear c24b0
                              try clear c24b1
                              try clear c24b2
                              try clear c27
                              try clear c27b0
                              try clear c27b1
                              try clear c30
                              try clear c30b0
                              try clear c34
                              try clear c35
                              try clear c35b0
                              try clear hx188_0
                              try clear hx189_0
                              try clear hx190_0
                              try clear hx191_0
                              try clear hx192_0
                              try clear hx193_0
                              try clear hx194_0
                              try clear hx195_0
                              try clear p1
                              try clear p18
                              try clear p188
                              try clear p189
                              try clear p19
                              try clear p190
                              try clear p191
                              try clear p192
                              try clear p193
                              try clear p194
                              try clear p195
                              try clear p2
                              try clear q1
                              try clear q18
                              try clear q188
                              try clear q189
                              try clear q19
                              try clear q190
                              try clear q191
                              try clear q192
                              try clear q193
                              try clear q194
                              try clear q195
                              obtain ⟨x9_5, rfl, HA, HK5, HO_4, HO_5, HO_6, HB⟩ := hrel
                              cases gk with
                              | zero => exact absurd HA.out (by simp [palinglaw14_GraphAbove.l2])
                              | succ k5 =>
                                have H := HA.out
                                clear HA
                                simp only [palinglaw14_GraphAbove.l2] at H
                                by_cases c36 : x9_5 < (l0.length : Int)
                                · rw [if_pos c36] at H
                                  have c36b0 : decide (x9_5 < (l0.length : Int)) = true := decide_eq_true c36
                                  clear c36
                                  by_cases c37 : 0 ≤ x7_2
                                  · rw [if_pos c37] at H
                                    have c37b0 : decide (0 ≤ x7_2) = true := decide_eq_true c37
                                    clear c37
                                    by_cases c38 : x7_2 < (t182.length : Int)
                                    · rw [if_pos c38] at H
                                      have c38b0 : decide (x7_2 < (t182.length : Int)) = true := decide_eq_true c38
                                      clear c38
                                      by_cases c39 : 0 ≤ x8_4
                                      · rw [if_pos c39] at H
                                        have c39b0 : decide (0 ≤ x8_4) = true := decide_eq_true c39
                                        clear c39
                                        by_cases c40 : x8_4 < ((rd_L7 t182 x7_2).length : Int)
                                        · rw [if_pos c40] at H
                                          have c40b0 : decide (x8_4 < ((rd_L7 t182 x7_2).length : Int)) = true := decide_eq_true c40
                                          clear c40
                                          obtain ⟨bq41, hbq41⟩ : ∃ b_ : Bool, b_ = (rdOf false (rd_L7 t182 x7_2) x8_4) := ⟨_, rfl⟩
                                          replace H : (if bq41 = true then (if x8_4 < (t182.length : Int) then (if 0 ≤ x9_5 then (if x9_5 < ((rd_L7 t182 x8_4).length : Int) then (if rdOf false (rd_L7 t182 x8_4) x9_5 = true then (if x9_5 < ((rd_L7 t182 x7_2).length : Int) then (if (rdOf false (rd_L7 t182 x7_2) x9_5 = true) then (if x7_2 < ((rd_L7 t182 x8_4).length : Int) then (if rdOf false (rd_L7 t182 x8_4) x7_2 = true then (if x7_2 = x8_4 then (palinglaw14_GraphAbove.l2 k5 l0 t179 t182 t185 x7_2 x8_4 (wrap64 (x9_5 + 1))) else (none)) else (palinglaw14_GraphAbove.l2 k5 l0 t179 t182 t185 x7_2 x8_4 (wrap64 (x9_5 + 1)))) else (none)) else (none)) else (none)) else (if x7_2 < ((rd_L7 t182 x8_4).length : Int) then (if rdOf false (rd_L7 t182 x8_4) x7_2 = true then (if x7_2 = x8_4 then (palinglaw14_GraphAbove.l2 k5 l0 t179 t182 t185 x7_2 x8_4 (wrap64 (x9_5 + 1))) else (none)) else (palinglaw14_GraphAbove.l2 k5 l0 t179 t182 t185 x7_2 x8_4 (wrap64 (x9_5 + 1)))) else (none))) else (none)) else (none)) else (none)) else (palinglaw14_GraphAbove.l2 k5 l0 t179 t182 t185 x7_2 x8_4 (wrap64 (x9_5 + 1)))) = some r := by rw [← hbq41] at H; exact H
                                          have Nbq41 := Aside0.mk hbq41
                                          clear hbq41
                                          by_cases c42 : bq41 = true
                                          · subst c42
                                            have H1 : (if x8_4 < (t182.length : Int) then (if 0 ≤ x9_5 then (if x9_5 < ((rd_L7 t182 x8_4).length : Int) then (if rdOf false (rd_L7 t182 x8_4) x9_5 = true then (if x9_5 < ((rd_L7 t182 x7_2).length : Int) then (if (rdOf false (rd_L7 t182 x7_2) x9_5 = true) then (if x7_2 < ((rd_L7 t182 x8_4).length : Int) then (if rdOf false (rd_L7 t182 x8_4) x7_2 = true then (if x7_2 = x8_4 then (palinglaw14_GraphAbove.l2 k5 l0 t179 t182 t185 x7_2 x8_4 (wrap64 (x9_5 + 1))) else (none)) else (palinglaw14_GraphAbove.l2 k5 l0 t179 t182 t185 x7_2 x8_4 (wrap64 (x9_5 + 1)))) else (none)) else (none)) else (none)) else (if x7_2 < ((rd_L7 t182 x8_4).length : Int) then (if rdOf false (rd_L7 t182 x8_4) x7_2 = true then (if x7_2 = x8_4 then (palinglaw14_GraphAbove.l2 k5 l0 t179 t182 t185 x7_2 x8_4 (wrap64 (x9_5 + 1))) else (none)) else (palinglaw14_GraphAbove.l2 k5 l0 t179 t182 t185 x7_2 x8_4 (wrap64 (x9_5 + 1)))) else (none))) else (none)) else (none)) else (none)) = some r := by rw [if_pos rfl] at H; exact H
                                            clear H
                                            have H := H1
                                            clear H1
                                            by_cases c43 : x8_4 < (t182.length : Int)
                                            · rw [if_pos c43] at H
                                              have c43b0 : decide (x8_4 < (t182.length : Int)) = true := decide_eq_true c43
                                              clear c43
                                              by_cases c44 : 0 ≤ x9_5
                                              · rw [if_pos c44] at H
                                                have c44b0 : decide (0 ≤ x9_5) = true := decide_eq_true c44
                                                clear c44
                                                by_cases c45 : x9_5 < ((rd_L7 t182 x8_4).length : Int)
                                                · rw [if_pos c45] at H
                                                  have c45b0 : decide (x9_5 < ((rd_L7 t182 x8_4).length : Int)) = true := decide_eq_true c45
                                                  clear c45
                                                  obtain ⟨bq46, hbq46⟩ : ∃ b_ : Bool, b_ = (rdOf false (rd_L7 t182 x8_4) x9_5) := ⟨_, rfl⟩
                                                  replace H : (if bq46 = true then (if x9_5 < ((rd_L7 t182 x7_2).length : Int) then (if (rdOf false (rd_L7 t182 x7_2) x9_5 = true) then (if x7_2 < ((rd_L7 t182 x8_4).length : Int) then (if rdOf false (rd_L7 t182 x8_4) x7_2 = true then (if x7_2 = x8_4 then (palinglaw14_GraphAbove.l2 k5 l0 t179 t182 t185 x7_2 x8_4 (wrap64 (x9_5 + 1))) else (none)) else (palinglaw14_GraphAbove.l2 k5 l0 t179 t182 t185 x7_2 x8_4 (wrap64 (x9_5 + 1)))) else (none)) else (none)) else (none)) else (if x7_2 < ((rd_L7 t182 x8_4).length : Int) then (if rdOf false (rd_L7 t182 x8_4) x7_2 = true then (if x7_2 = x8_4 then (palinglaw14_GraphAbove.l2 k5 l0 t179 t182 t185 x7_2 x8_4 (wrap64 (x9_5 + 1))) else (none)) else (palinglaw14_GraphAbove.l2 k5 l0 t179 t182 t185 x7_2 x8_4 (wrap64 (x9_5 + 1)))) else (none))) = some r := by rw [← hbq46] at H; exact H
                                                  have Nbq46 := Aside0.mk hbq46
                                                  clear hbq46
                                                  by_cases c47 : bq46 = true
                                                  · subst c47
                                                    have H1 : (if x9_5 < ((rd_L7 t182 x7_2).length : Int) then (if (rdOf false (rd_L7 t182 x7_2) x9_5 = true) then (if x7_2 < ((rd_L7 t182 x8_4).length : Int) then (if rdOf false (rd_L7 t182 x8_4) x7_2 = true then (if x7_2 = x8_4 then (palinglaw14_GraphAbove.l2 k5 l0 t179 t182 t185 x7_2 x8_4 (wrap64 (x9_5 + 1))) else (none)) else (palinglaw14_GraphAbove.l2 k5 l0 t179 t182 t185 x7_2 x8_4 (wrap64 (x9_5 + 1)))) else (none)) else (none)) else (none)) = some r := by rw [if_pos rfl] at H; exact H
                                                    clear H
                                                    have H := H1
                                                    clear H1
                                                    by_cases c48 : x9_5 < ((rd_L7 t182 x7_2).length : Int)
                                                    · rw [if_pos c48] at H
                                                      have c48b0 : decide (x9_5 < ((rd_L7 t182 x7_2).length : Int)) = true := decide_eq_true c48
                                                      clear c48
                                                      obtain ⟨bq49, hbq49⟩ : ∃ b_ : Bool, b_ = (rdOf false (rd_L7 t182 x7_2) x9_5) := ⟨_, rfl⟩
                                                      replace H : (if (bq49 = true) then (if x7_2 < ((rd_L7 t182 x8_4).length : Int) then (if rdOf false (rd_L7 t182 x8_4) x7_2 = true then (if x7_2 = x8_4 then (palinglaw14_GraphAbove.l2 k5 l0 t179 t182 t185 x7_2 x8_4 (wrap64 (x9_5 + 1))) else (none)) else (palinglaw14_GraphAbove.l2 k5 l0 t179 t182 t185 x7_2 x8_4 (wrap64 (x9_5 + 1)))) else (none)) else (none)) = some r := by rw [← hbq49] at H; exact H
                                                      have Nbq49 := Aside0.mk hbq49
                                                      clear hbq49
                                                      by_cases c50 : (bq49 = true)
                                                      · subst c50
                                                        have H1 : (if x7_2 < ((rd_L7 t182 x8_4).length : Int) then (if rdOf false (rd_L7 t182 x8_4) x7_2 = true then (if x7_2 = x8_4 then (palinglaw14_GraphAbove.l2 k5 l0 t179 t182 t185 x7_2 x8_4 (wrap64 (x9_5 + 1))) else (none)) else (palinglaw14_GraphAbove.l2 k5 l0 t179 t182 t185 x7_2 x8_4 (wrap64 (x9_5 + 1)))) else (none)) = some r := by rw [if_pos rfl] at H; exact H
                                                        clear H
                                                        have H := H1
                                                        clear H1
                                                        by_cases c51 : x7_2 < ((rd_L7 t182 x8_4).length : Int)
                                                        · rw [if_pos c51] at H
                                                          have c51b0 : decide (x7_2 < ((rd_L7 t182 x8_4).length : Int)) = true := decide_eq_true c51
                                                          clear c51
                                                          obtain ⟨bq52, hbq52⟩ : ∃ b_ : Bool, b_ = (rdOf false (rd_L7 t182 x8_4) x7_2) := ⟨_, rfl⟩
                                                          replace H : (if bq52 = true then (if x7_2 = x8_4 then (palinglaw14_GraphAbove.l2 k5 l0 t179 t182 t185 x7_2 x8_4 (wrap64 (x9_5 + 1))) else (none)) else (palinglaw14_GraphAbove.l2 k5 l0 t179 t182 t185 x7_2 x8_4 (wrap64 (x9_5 + 1)))) = some r := by rw [← hbq52] at H; exact H
                                                          have Nbq52 := Aside0.mk hbq52
                                                          clear hbq52
                                                          by_cases c53 : bq52 = true
                                                          · subst c53
                                                            have H1 : (if x7_2 = x8_4 then (palinglaw14_GraphAbove.l2 k5 l0 t179 t182 t185 x7_2 x8_4 (wrap64 (x9_5 + 1))) else (none)) = some r := by rw [if_pos rfl] at H; exact H
                                                            clear H
                                                            have H := H1
                                                            clear H1
                                                            by_cases c54 : x7_2 = x8_4
                                                            · rw [if_pos c54] at H
                                                              have c54b0 : (x7_2 == x8_4) = true := beq_iff_eq.mpr c54
                                                              have c54b1 : (x7_2 != x8_4) = false := bne_eq_false_iff_eq.mpr c54
                                                              clear c54
                                                              have H' := Aside0.mk H
                                                              clear H
                                                              obtain ⟨Ao55, co55, eo55⟩ := Kd.S_slice HO_5.out
                                                              subst eo55
                                                              have p196 : 0 ≤ (x7_2 : Int) := of_decide_eq_true (by first | (with_reducible assumption) | assumption)
                                                              have q196 : x7_2 < (t182.length : Int) := of_decide_eq_true (by first | (with_reducible assumption) | assumption)
                                                              obtain ⟨ad196, A196_0, c196_0, e196, hx196_0, hl196_0, hi196_0⟩ := at_L7 (Kd.S_reads' HO_5.out).2.2 x7_2 p196 q196
                                                              cases e196
                                                              obtain ⟨ce196, hce196, hMe196, hcc196⟩ := Kd.S_get HO_5.out [] x7_2 p196 (by first | exact q196 | exact of_decide_eq_true (by first | (with_reducible assumption) | assumption) | (have e_ := (Kd.S_reads' HO_5.out).1; omega))
                                                              obtain ⟨ve196_0, rfl, ge196_0⟩ := hMe196
                                                              have hv196_0 := hcc196 0 _ rfl
                                                              rw [Nat.add_zero, show ((Kd.slice 4 Kd.bool)).sz = 1 from rfl, Nat.mul_one] at hv196_0
                                                              replace hv196_0 := Option.some.inj (hv196_0.symm.trans hx196_0)
                                                              rw [hv196_0] at ge196_0
                                                              have HL196_0 := Aside0.mk (show Kd.R Kd.bool 4 _ _ _ _ (rd_L7 t182 x7_2) from ge196_0)
                                                              clear hv196_0 ge196_0
                                                              clear hcc196 hce196
                                                              have HR196_0 := Aside0.mk hi196_0
                                                              have HC196_0 := Aside0.mk hl196_0
                                                              clear hi196_0 hl196_0
                                                              replace p196 := eq_true p196
                                                              replace q196 := eq_true q196
                                                              have p197 : 0 ≤ (x8_4 : Int) := of_decide_eq_true (by first | (with_reducible assumption) | assumption)
                                                              have q197 : x8_4 < ((rd_L7 t182 x7_2).length : Int) := of_decide_eq_true (by first | (with_reducible assumption) | assumption)
                                                              obtain ⟨ad197, e197, hx197_0⟩ := Kd.at_bool (by repeat (first | (with_reducible exact HR196_0.out) | (with_reducible refine Kd.C_alloc ?_ _) | (with_reducible refine Kd.C_drewN ?_ _) | (with_reducible refine Kd.C_drew ?_) | exact HR196_0.out)) x8_4 p197 q197
                                                              (try rw [← Nbq41.out] at hx197_0)
                                                              (try rw [← Nbq46.out] at hx197_0)
                                                              (try rw [← Nbq49.out] at hx197_0)
                                                              (try rw [← Nbq52.out] at hx197_0)
                                                              cases e197
                                                              replace p197 := eq_true p197
                                                              replace q197 := eq_true q197
                                                              have p198 : 0 ≤ (x8_4 : Int) := of_decide_eq_true (by first | (with_reducible assumption) | assumption)
                                                              have q198 : x8_4 < (t182.length : Int) := of_decide_eq_true (by first | (with_reducible assumption) | assumption)
                                                              obtain ⟨ad198, A198_0, c198_0, e198, hx198_0, hl198_0, hi198_0⟩ := at_L7 (Kd.S_reads' HO_5.out).2.2 x8_4 p198 q198
                                                              obtain rfl : ad196 = ad198 := (by injection e198)
                                                              obtain ⟨ce198, hce198, hMe198, hcc198⟩ := Kd.S_get HO_5.out [] x8_4 p198 (by first | exact q198 | exact of_decide_eq_true (by first | (with_reducible assumption) | assumption) | (have e_ := (Kd.S_reads' HO_5.out).1; omega))
                                                              obtain ⟨ve198_0, rfl, ge198_0⟩ := hMe198
                                                              have hv198_0 := hcc198 0 _ rfl
                                                              rw [Nat.add_zero, show ((Kd.slice 4 Kd.bool)).sz = 1 from rfl, Nat.mul_one] at hv198_0
                                                              replace hv198_0 := Option.some.inj (hv198_0.symm.trans hx198_0)
                                                              rw [hv198_0] at ge198_0
                                                              have HL198_0 := Aside0.mk (show Kd.R Kd.bool 4 _ _ _ _ (rd_L7 t182 x8_4) from ge198_0)
                                                              clear hv198_0 ge198_0
                                                              clear hcc198 hce198
                                                              have HR198_0 := Aside0.mk hi198_0
                                                              have HC198_0 := Aside0.mk hl198_0
                                                              clear hi198_0 hl198_0
                                                              replace p198 := eq_true p198
                                                              replace q198 := eq_true q198
                                                              have p199 : 0 ≤ (x9_5 : Int) := of_decide_eq_true (by first | (with_reducible assumption) | assumption)
                                                              have q199 : x9_5 < ((rd_L7 t182 x8_4).length : Int) := of_decide_eq_true (by first | (with_reducible assumption) | assumption)
                                                              obtain ⟨ad199, e199, hx199_0⟩ := Kd.at_bool (by repeat (first | (with_reducible exact HR198_0.out) | (with_reducible refine Kd.C_alloc ?_ _) | (with_reducible refine Kd.C_drewN ?_ _) | (with_reducible refine Kd.C_drew ?_) | exact HR198_0.out)) x9_5 p199 q199
                                                              (try rw [← Nbq41.out] at hx199_0)
                                                              (try rw [← Nbq46.out] at hx199_0)
                                                              (try rw [← Nbq49.out] at hx199_0)
                                                              (try rw [← Nbq52.out] at hx199_0)
                                                              cases e199
                                                              replace p199 := eq_true p199
                                                              replace q199 := eq_true q199
                                                              have p200 : 0 ≤ (x7_2 : Int) := of_decide_eq_true (by first | (with_reducible assumption) | assumption)
                                                              have q200 : x7_2 < (t182.length : Int) := of_decide_eq_true (by first | (with_reducible assumption) | assumption)
                                                              obtain ⟨ad200, A200_0, c200_0, e200, hx200_0, hl200_0, hi200_0⟩ := at_L7 (Kd.S_reads' HO_5.out).2.2 x7_2 p200 q200
                                                              obtain rfl : ad196 = ad200 := (by injection e200)
                                                              obtain ⟨ce200, hce200, hMe200, hcc200⟩ := Kd.S_get HO_5.out [] x7_2 p200 (by first | exact q200 | exact of_decide_eq_true (by first | (with_reducible assumption) | assumption) | (have e_ := (Kd.S_reads' HO_5.out).1; omega))
                                                              obtain ⟨ve200_0, rfl, ge200_0⟩ := hMe200
                                                              have hv200_0 := hcc200 0 _ rfl
                                                              rw [Nat.add_zero, show ((Kd.slice 4 Kd.bool)).sz = 1 from rfl, Nat.mul_one] at hv200_0
                                                              replace hv200_0 := Option.some.inj (hv200_0.symm.trans hx200_0)
                                                              rw [hv200_0] at ge200_0
                                                              have HL200_0 := Aside0.mk (show Kd.R Kd.bool 4 _ _ _ _ (rd_L7 t182 x7_2) from ge200_0)
                                                              clear hv200_0 ge200_0
                                                              clear hcc200 hce200
                                                              have HR200_0 := Aside0.mk hi200_0
                                                              have HC200_0 := Aside0.mk hl200_0
                                                              clear hi200_0 hl200_0
                                                              replace p200 := eq_true p200
                                                              replace q200 := eq_true q200
                                                              have ea_ := Option.some.inj (hx196_0.symm.trans hx200_0)
                                                              injection ea_ with ea_ en_ ec_
                                                              subst ea_
                                                              subst ec_
                                                              clear en_
                                                              have p201 : 0 ≤ (x9_5 : Int) := of_decide_eq_true (by first | (with_reducible assumption) | assumption)
                                                              have q201 : x9_5 < ((rd_L7 t182 x7_2).length : Int) := of_decide_eq_true (by first | (with_reducible assumption) | assumption)
                                                              obtain ⟨ad201, e201, hx201_0⟩ := Kd.at_bool (by repeat (first | (with_reducible exact HR200_0.out) | (with_reducible refine Kd.C_alloc ?_ _) | (with_reducible refine Kd.C_drewN ?_ _) | (with_reducible refine Kd.C_drew ?_) | exact HR200_0.out)) x9_5 p201 q201
                                                              (try rw [← Nbq41.out] at hx201_0)
                                                              (try rw [← Nbq46.out] at hx201_0)
                                                              (try rw [← Nbq49.out] at hx201_0)
                                                              (try rw [← Nbq52.out] at hx201_0)
                                                              cases e201
                                                              replace p201 := eq_true p201
                                                              replace q201 := eq_true q201
                                                              have p202 : 0 ≤ (x7_2 : Int) := of_decide_eq_true (by first | (with_reducible assumption) | assumption)
                                                              have q202 : x7_2 < (t182.length : Int) := of_decide_eq_true (by first | (with_reducible assumption) | assumption)
                                                              obtain ⟨ad202, A202_0, c202_0, e202, hx202_0, hl202_0, hi202_0⟩ := at_L7 (Kd.S_reads' HO_5.out).2.2 x7_2 p202 q202
                                                              obtain rfl : ad196 = ad202 := (by injection e202)
                                                              obtain ⟨ce202, hce202, hMe202, hcc202⟩ := Kd.S_get HO_5.out [] x7_2 p202 (by first | exact q202 | exact of_decide_eq_true (by first | (with_reducible assumption) | assumption) | (have e_ := (Kd.S_reads' HO_5.out).1; omega))
                                                              obtain ⟨ve202_0, rfl, ge202_0⟩ := hMe202
                                                              have hv202_0 := hcc202 0 _ rfl
                                                              rw [Nat.add_zero, show ((Kd.slice 4 Kd.bool)).sz = 1 from rfl, Nat.mul_one] at hv202_0
                                                              replace hv202_0 := Option.some.inj (hv202_0.symm.trans hx202_0)
                                                              rw [hv202_0] at ge202_0
                                                              have HL202_0 := Aside0.mk (show Kd.R Kd.bool 4 _ _ _ _ (rd_L7 t182 x7_2) from ge202_0)
                                                              clear hv202_0 ge202_0
                                                              clear hcc202 hce202
                                                              have HR202_0 := Aside0.mk hi202_0
                                                              have HC202_0 := Aside0.mk hl202_0
                                                              clear hi202_0 hl202_0
                                                              replace p202 := eq_true p202
                                                              replace q202 := eq_true q202
                                                              have ea_ := Option.some.inj (hx196_0.symm.trans hx202_0)
                                                              injection ea_ with ea_ en_ ec_
                                                              subst ea_
                                                              subst ec_
                                                              clear en_
                                                              have p203 : 0 ≤ (x8_4 : Int) := of_decide_eq_true (by first | (with_reducible assumption) | assumption)
                                                              have q203 : x8_4 < ((rd_L7 t182 x7_2).length : Int) := of_decide_eq_true (by first | (with_reducible assumption) | assumption)
                                                              obtain ⟨ad203, e203, hx203_0⟩ := Kd.at_bool (by repeat (first | (with_reducible exact HR202_0.out) | (with_reducible refine Kd.C_alloc ?_ _) | (with_reducible refine Kd.C_drewN ?_ _) | (with_reducible refine Kd.C_drew ?_) | exact HR202_0.out)) x8_4 p203 q203
                                                              (try rw [← Nbq41.out] at hx203_0)
                                                              (try rw [← Nbq46.out] at hx203_0)
                                                              (try rw [← Nbq49.out] at hx203_0)
                                                              (try rw [← Nbq52.out] at hx203_0)
                                                              cases e203
                                                              replace p203 := eq_true p203
                                                              replace q203 := eq_true q203
                                                              have p204 : 0 ≤ (x8_4 : Int) := of_decide_eq_true (by first | (with_reducible assumption) | assumption)
                                                              have q204 : x8_4 < (t182.length : Int) := of_decide_eq_true (by first | (with_reducible assumption) | assumption)
                                                              obtain ⟨ad204, A204_0, c204_0, e204, hx204_0, hl204_0, hi204_0⟩ := at_L7 (Kd.S_reads' HO_5.out).2.2 x8_4 p204 q204
                                                              obtain rfl : ad196 = ad204 := (by injection e204)
                                                              obtain ⟨ce204, hce204, hMe204, hcc204⟩ := Kd.S_get HO_5.out [] x8_4 p204 (by first | exact q204 | exact of_decide_eq_true (by first | (with_reducible assumption) | assumption) | (have e_ := (Kd.S_reads' HO_5.out).1; omega))
                                                              obtain ⟨ve204_0, rfl, ge204_0⟩ := hMe204
                                                              have hv204_0 := hcc204 0 _ rfl
                                                              rw [Nat.add_zero, show ((Kd.slice 4 Kd.bool)).sz = 1 from rfl, Nat.mul_one] at hv204_0
                                                              replace hv204_0 := Option.some.inj (hv204_0.symm.trans hx204_0)
                                                              rw [hv204_0] at ge204_0
                                                              have HL204_0 := Aside0.mk (show Kd.R Kd.bool 4 _ _ _ _ (rd_L7 t182 x8_4) from ge204_0)
                                                              clear hv204_0 ge204_0
                                                              clear hcc204 hce204
                                                              have HR204_0 := Aside0.mk hi204_0
                                                              have HC204_0 := Aside0.mk hl204_0
                                                              clear hi204_0 hl204_0
                                                              replace p204 := eq_true p204
                                                              replace q204 := eq_true q204
                                                              have ea_ := Option.some.inj (hx198_0.symm.trans hx204_0)
                                                              injection ea_ with ea_ en_ ec_
                                                              subst ea_
                                                              subst ec_
                                                              clear en_
                                                              have p205 : 0 ≤ (x7_2 : Int) := of_decide_eq_true (by first | (with_reducible assumption) | assumption)
                                                              have q205 : x7_2 < ((rd_L7 t182 x8_4).length : Int) := of_decide_eq_true (by first | (with_reducible assumption) | assumption)
                                                              obtain ⟨ad205, e205, hx205_0⟩ := Kd.at_bool (by repeat (first | (with_reducible exact HR204_0.out) | (with_reducible refine Kd.C_alloc ?_ _) | (with_reducible refine Kd.C_drewN ?_ _) | (with_reducible refine Kd.C_drew ?_) | exact HR204_0.out)) x7_2 p205 q205
                                                              (try rw [← Nbq41.out] at hx205_0)
                                                              (try rw [← Nbq46.out] at hx205_0)
                                                              (try rw [← Nbq49.out] at hx205_0)
                                                              (try rw [← Nbq52.out] at hx205_0)
                                                              cases e205
                                                              replace p205 := eq_true p205
                                                              replace q205 := eq_true q205
                                                              go_wp2
                                                              repeat (go_quiet (fail); try go_wp2)
                                                              go_roundg k5
                                                              case measure => have := HJ3.out; have := HK2.out; have := HJ14.out; have := HK4.out; have := HK5.out; omega
                                                              case rel => exact ⟨(wrap64 (x9_5 + 1)), (by first | rfl | (simp; done) | (simp [*]; done)), H', ⟨by have := HJ3.out; have := HK2.out; have := HJ14.out; have := HK4.out; have := HK5.out; omega⟩, ⟨by (with_reducible repeat (first | apply Kd.R_alloc | apply Kd.R_drewN | apply Kd.R_drew)); exact HO_4.out⟩, ⟨by (with_reducible repeat (first | apply Kd.S_alloc | apply Kd.S_drewN | apply Kd.S_drew)); exact HO_5.out⟩, ⟨by (with_reducible repeat (first | apply Kd.S_alloc | apply Kd.S_drewN | apply Kd.S_drew)); exact HO_6.out⟩, ⟨by repeat (first | (with_reducible first | exact HB.out | apply below_alloc | apply pw_below_drewN | apply below_drew1) | exact HB.out)⟩⟩
                                                            · rw [if_neg c54] at H
                                                              have c54b0 : (x7_2 == x8_4) = false := beq_eq_false_iff_ne.mpr c54
                                                              have c54b1 : (x7_2 != x8_4) = true := bne_iff_ne.mpr c54
                                                              exact absurd H (by simp)
                                                          · replace c53 := Bool.eq_false_iff.mpr c53
                                                            subst c53
                                                            have H1 : (palinglaw14_GraphAbove.l2 k5 l0 t179 t182 t185 x7_2 x8_4 (wrap64 (x9_5 + 1))) = some r := by rw [if_neg (show ¬ (false = true) by decide)] at H; exact H
                                                            clear H
                                                            have H := H1
                                                            clear H1
                                                            have H' := Aside0.mk H
                                                            clear H
                                                            obtain ⟨Ao57, co57, eo57⟩ := Kd.S_slice HO_5.out
                                                            subst eo57
                                                            have p196 : 0 ≤ (x7_2 : Int) := of_decide_eq_true (by first | (with_reducible assumption) | assumption)
                                                            have q196 : x7_2 < (t182.length : Int) := of_decide_eq_true (by first | (with_reducible assumption) | assumption)
                                                            obtain ⟨ad196, A196_0, c196_0, e196, hx196_0, hl196_0, hi196_0⟩ := at_L7 (Kd.S_reads' HO_5.out).2.2 x7_2 p196 q196
                                                            cases e196
                                                            obtain ⟨ce196, hce196, hMe196, hcc196⟩ := Kd.S_get HO_5.out [] x7_2 p196 (by first | exact q196 | exact of_decide_eq_true (by first | (with_reducible assumption) | assumption) | (have e_ := (Kd.S_reads' HO_5.out).1; omega))
                                                            obtain ⟨ve196_0, rfl, ge196_0⟩ := hMe196
                                                            have hv196_0 := hcc196 0 _ rfl
                                                            rw [Nat.add_zero, show ((Kd.slice 4 Kd.bool)).sz = 1 from rfl, Nat.mul_one] at hv196_0
                                                            replace hv196_0 := Option.some.inj (hv196_0.symm.trans hx196_0)
                                                            rw [hv196_0] at ge196_0
                                                            have HL196_0 := Aside0.mk (show Kd.R Kd.bool 4 _ _ _ _ (rd_L7 t182 x7_2) from ge196_0)
                                                            clear hv196_0 ge196_0
                                                            clear hcc196 hce196
                                                            have HR196_0 := Aside0.mk hi196_0
                                                            have HC196_0 := Aside0.mk hl196_0
                                                            clear hi196_0 hl196_0
                                                            replace p196 := eq_true p196
                                                            replace q196 := eq_true q196
                                                            have p197 : 0 ≤ (x8_4 : Int) := of_decide_eq_true (by first | (with_reducible assumption) | assumption)
                                                            have q197 : x8_4 < ((rd_L7 t182 x7_2).length : Int) := of_decide_eq_true (by first | (with_reducible assumption) | assumption)
                                                            obtain ⟨ad197, e197, hx197_0⟩ := Kd.at_bool (by repeat (first | (with_reducible exact HR196_0.out) | (with_reducible refine Kd.C_alloc ?_ _) | (with_reducible refine Kd.C_drewN ?_ _) | (with_reducible refine Kd.C_drew ?_) | exact HR196_0.out)) x8_4 p197 q197
                                                            (try rw [← Nbq41.out] at hx197_0)
                                                            (try rw [← Nbq46.out] at hx197_0)
                                                            (try rw [← Nbq49.out] at hx197_0)
                                                            (try rw [← Nbq52.out] at hx197_0)
                                                            cases e197
                                                            replace p197 := eq_true p197
                                                            replace q197 := eq_true q197
                                                            have p198 : 0 ≤ (x8_4 : Int) := of_decide_eq_true (by first | (with_reducible assumption) | assumption)
                                                            have q198 : x8_4 < (t182.length : Int) := of_decide_eq_true (by first | (with_reducible assumption) | assumption)
                                                            obtain ⟨ad198, A198_0, c198_0, e198, hx198_0, hl198_0, hi198_0⟩ := at_L7 (Kd.S_reads' HO_5.out).2.2 x8_4 p198 q198
                                                            obtain rfl : ad196 = ad198 := (by injection e198)
                                                            obtain ⟨ce198, hce198, hMe198, hcc198⟩ := Kd.S_get HO_5.out [] x8_4 p198 (by first | exact q198 | exact of_decide_eq_true (by first | (with_reducible assumption) | assumption) | (have e_ := (Kd.S_reads' HO_5.out).1; omega))
                                                            obtain ⟨ve198_0, rfl, ge198_0⟩ := hMe198
                                                            have hv198_0 := hcc198 0 _ rfl
                                                            rw [Nat.add_zero, show ((Kd.slice 4 Kd.bool)).sz = 1 from rfl, Nat.mul_one] at hv198_0
                                                            replace hv198_0 := Option.some.inj (hv198_0.symm.trans hx198_0)
                                                            rw [hv198_0] at ge198_0
                                                            have HL198_0 := Aside0.mk (show Kd.R Kd.bool 4 _ _ _ _ (rd_L7 t182 x8_4) from ge198_0)
                                                            clear hv198_0 ge198_0
                                                            clear hcc198 hce198
                                                            have HR198_0 := Aside0.mk hi198_0
                                                            have HC198_0 := Aside0.mk hl198_0
                                                            clear hi198_0 hl198_0
                                                            replace p198 := eq_true p198
                                                            replace q198 := eq_true q198
                                                            have p199 : 0 ≤ (x9_5 : Int) := of_decide_eq_true (by first | (with_reducible assumption) | assumption)
                                                            have q199 : x9_5 < ((rd_L7 t182 x8_4).length : Int) := of_decide_eq_true (by first | (with_reducible assumption) | assumption)
                                                            obtain ⟨ad199, e199, hx199_0⟩ := Kd.at_bool (by repeat (first | (with_reducible exact HR198_0.out) | (with_reducible refine Kd.C_alloc ?_ _) | (with_reducible refine Kd.C_drewN ?_ _) | (with_reducible refine Kd.C_drew ?_) | exact HR198_0.out)) x9_5 p199 q199
                                                            (try rw [← Nbq41.out] at hx199_0)
                                                            (try rw [← Nbq46.out] at hx199_0)
                                                            (try rw [← Nbq49.out] at hx199_0)
                                                            (try rw [← Nbq52.out] at hx199_0)
                                                            cases e199
                                                            replace p199 := eq_true p199
                                                            replace q199 := eq_true q199
                                                            have p200 : 0 ≤ (x7_2 : Int) := of_decide_eq_true (by first | (with_reducible assumption) | assumption)
                                                            have q200 : x7_2 < (t182.length : Int) := of_decide_eq_true (by first | (with_reducible assumption) | assumption)
                                                            obtain ⟨ad200, A200_0, c200_0, e200, hx200_0, hl200_0, hi200_0⟩ := at_L7 (Kd.S_reads' HO_5.out).2.2 x7_2 p200 q200
                                                            obtain rfl : ad196 = ad200 := (by injection e200)
                                                            obtain ⟨ce200, hce200, hMe200, hcc200⟩ := Kd.S_get HO_5.out [] x7_2 p200 (by first | exact q200 | exact of_decide_eq_true (by first | (with_reducible assumption) | assumption) | (have e_ := (Kd.S_reads' HO_5.out).1; omega))
                                                            obtain ⟨ve200_0, rfl, ge200_0⟩ := hMe200
                                                            have hv200_0 := hcc200 0 _ rfl
                                                            rw [Nat.add_zero, show ((Kd.slice 4 Kd.bool)).sz = 1 from rfl, Nat.mul_one] at hv200_0
                                                            replace hv200_0 := Option.some.inj (hv200_0.symm.trans hx200_0)
                                                            rw [hv200_0] at ge200_0
                                                            have HL200_0 := Aside0.mk (show Kd.R Kd.bool 4 _ _ _ _ (rd_L7 t182 x7_2) from ge200_0)
                                                            clear hv200_0 ge200_0
                                                            clear hcc200 hce200
                                                            have HR200_0 := Aside0.mk hi200_0
                                                            have HC200_0 := Aside0.mk hl200_0
                                                            clear hi200_0 hl200_0
                                                            replace p200 := eq_true p200
                                                            replace q200 := eq_true q200
                                                            have ea_ := Option.some.inj (hx196_0.symm.trans hx200_0)
                                                            injection ea_ with ea_ en_ ec_
                                                            subst ea_
                                                            subst ec_
                                                            clear en_
                                                            have p201 : 0 ≤ (x9_5 : Int) := of_decide_eq_true (by first | (with_reducible assumption) | assumption)
                                                            have q201 : x9_5 < ((rd_L7 t182 x7_2).length : Int) := of_decide_eq_true (by first | (with_reducible assumption) | assumption)
                                                            obtain ⟨ad201, e201, hx201_0⟩ := Kd.at_bool (by repeat (first | (with_reducible exact HR200_0.out) | (with_reducible refine Kd.C_alloc ?_ _) | (with_reducible refine Kd.C_drewN ?_ _) | (with_reducible refine Kd.C_drew ?_) | exact HR200_0.out)) x9_5 p201 q201
                                                            (try rw [← Nbq41.out] at hx201_0)
                                                            (try rw [← Nbq46.out] at hx201_0)
                                                            (try rw [← Nbq49.out] at hx201_0)
                                                            (try rw [← Nbq52.out] at hx201_0)
                                                            cases e201
                                                            replace p201 := eq_true p201
                                                            replace q201 := eq_true q201
                                                            have p202 : 0 ≤ (x7_2 : Int) := of_decide_eq_true (by first | (with_reducible assumption) | assumption)
                                                            have q202 : x7_2 < (t182.length : Int) := of_decide_eq_true (by first | (with_reducible assumption) | assumption)
                                                            obtain ⟨ad202, A202_0, c202_0, e202, hx202_0, hl202_0, hi202_0⟩ := at_L7 (Kd.S_reads' HO_5.out).2.2 x7_2 p202 q202
                                                            obtain rfl : ad196 = ad202 := (by injection e202)
                                                            obtain ⟨ce202, hce202, hMe202, hcc202⟩ := Kd.S_get HO_5.out [] x7_2 p202 (by first | exact q202 | exact of_decide_eq_true (by first | (with_reducible assumption) | assumption) | (have e_ := (Kd.S_reads' HO_5.out).1; omega))
                                                            obtain ⟨ve202_0, rfl, ge202_0⟩ := hMe202
                                                            have hv202_0 := hcc202 0 _ rfl
                                                            rw [Nat.add_zero, show ((Kd.slice 4 Kd.bool)).sz = 1 from rfl, Nat.mul_one] at hv202_0
                                                            replace hv202_0 := Option.some.inj (hv202_0.symm.trans hx202_0)
                                                            rw [hv202_0] at ge202_0
                                                            have HL202_0 := Aside0.mk (show Kd.R Kd.bool 4 _ _ _ _ (rd_L7 t182 x7_2) from ge202_0)
                                                            clear hv202_0 ge202_0
                                                            clear hcc202 hce202
                                                            have HR202_0 := Aside0.mk hi202_0
                                                            have HC202_0 := Aside0.mk hl202_0
                                                            clear hi202_0 hl202_0
                                                            replace p202 := eq_true p202
                                                            replace q202 := eq_true q202
                                                            have ea_ := Option.some.inj (hx196_0.symm.trans hx202_0)
                                                            injection ea_ with ea_ en_ ec_
                                                            subst ea_
                                                            subst ec_
                                                            clear en_
                                                            have p203 : 0 ≤ (x8_4 : Int) := of_decide_eq_true (by first | (with_reducible assumption) | assumption)
                                                            have q203 : x8_4 < ((rd_L7 t182 x7_2).length : Int) := of_decide_eq_true (by first | (with_reducible assumption) | assumption)
                                                            obtain ⟨ad203, e203, hx203_0⟩ := Kd.at_bool (by repeat (first | (with_reducible exact HR202_0.out) | (with_reducible refine Kd.C_alloc ?_ _) | (with_reducible refine Kd.C_drewN ?_ _) | (with_reducible refine Kd.C_drew ?_) | exact HR202_0.out)) x8_4 p203 q203
                                                            (try rw [← Nbq41.out] at hx203_0)
                                                            (try rw [← Nbq46.out] at hx203_0)
                                                            (try rw [← Nbq49.out] at hx203_0)
                                                            (try rw [← Nbq52.out] at hx203_0)
                                                            cases e203
                                                            replace p203 := eq_true p203
                                                            replace q203 := eq_true q203
                                                            have p204 : 0 ≤ (x8_4 : Int) := of_decide_eq_true (by first | (with_reducible assumption) | assumption)
                                                            have q204 : x8_4 < (t182.length : Int) := of_decide_eq_true (by first | (with_reducible assumption) | assumption)
                                                            obtain ⟨ad204, A204_0, c204_0, e204, hx204_0, hl204_0, hi204_0⟩ := at_L7 (Kd.S_reads' HO_5.out).2.2 x8_4 p204 q204
                                                            obtain rfl : ad196 = ad204 := (by injection e204)
                                                            obtain ⟨ce204, hce204, hMe204, hcc204⟩ := Kd.S_get HO_5.out [] x8_4 p204 (by first | exact q204 | exact of_decide_eq_true (by first | (with_reducible assumption) | assumption) | (have e_ := (Kd.S_reads' HO_5.out).1; omega))
                                                            obtain ⟨ve204_0, rfl, ge204_0⟩ := hMe204
                                                            have hv204_0 := hcc204 0 _ rfl
                                                            rw [Nat.add_zero, show ((Kd.slice 4 Kd.bool)).sz = 1 from rfl, Nat.mul_one] at hv204_0
                                                            replace hv204_0 := Option.some.inj (hv204_0.symm.trans hx204_0)
                                                            rw [hv204_0] at ge204_0
                                                            have HL204_0 := Aside0.mk (show Kd.R Kd.bool 4 _ _ _ _ (rd_L7 t182 x8_4) from ge204_0)
                                                            clear hv204_0 ge204_0
                                                            clear hcc204 hce204
                                                            have HR204_0 := Aside0.mk hi204_0
                                                            have HC204_0 := Aside0.mk hl204_0
                                                            clear hi204_0 hl204_0
                                                            replace p204 := eq_true p204
                                                            replace q204 := eq_true q204
                                                            have ea_ := Option.some.inj (hx198_0.symm.trans hx204_0)
                                                            injection ea_ with ea_ en_ ec_
                                                            subst ea_
                                                            subst ec_
                                                            clear en_
                                                            have p205 : 0 ≤ (x7_2 : Int) := of_decide_eq_true (by first | (with_reducible assumption) | assumption)
                                                            have q205 : x7_2 < ((rd_L7 t182 x8_4).length : Int) := of_decide_eq_true (by first | (with_reducible assumption) | assumption)
                                                            obtain ⟨ad205, e205, hx205_0⟩ := Kd.at_bool (by repeat (first | (with_reducible exact HR204_0.out) | (with_reducible refine Kd.C_alloc ?_ _) | (with_reducible refine Kd.C_drewN ?_ _) | (with_reducible refine Kd.C_drew ?_) | exact HR204_0.out)) x7_2 p205 q205
                                                            (try rw [← Nbq41.out] at hx205_0)
                                                            (try rw [← Nbq46.out] at hx205_0)
                                                            (try rw [← Nbq49.out] at hx205_0)
                                                            (try rw [← Nbq52.out] at hx205_0)
                                                            cases e205
                                                            replace p205 := eq_true p205
                                                            replace q205 := eq_true q205
                                                            go_wp2
                                                            repeat (go_quiet (fail); try go_wp2)
                                                            go_roundg k5
                                                            case measure => have := HJ3.out; have := HK2.out; have := HJ14.out; have := HK4.out; have := HK5.out; omega
                                                            case rel => exact ⟨(wrap64 (x9_5 + 1)), (by first | rfl | (simp; done) | (simp [*]; done)), H', ⟨by have := HJ3.out; have := HK2.out; have := HJ14.out; have := HK4.out; have := HK5.out; omega⟩, ⟨by (with_reducible repeat (first | apply Kd.R_alloc | apply Kd.R_drewN | apply Kd.R_drew)); exact HO_4.out⟩, ⟨by (with_reducible repeat (first | apply Kd.S_alloc | apply Kd.S_drewN | apply Kd.S_drew)); exact HO_5.out⟩, ⟨by (with_reducible repeat (first | apply Kd.S_alloc | apply Kd.S_drewN | apply Kd.S_drew)); exact HO_6.out⟩, ⟨by repeat (first | (with_reducible first | exact HB.out | apply below_alloc | apply pw_below_drewN | apply below_drew1) | exact HB.out)⟩⟩
                                                        · rw [if_neg c51] at H
                                                          exact absurd H (by simp)
                                                      · replace c50 := Bool.eq_false_iff.mpr c50
                                                        subst c50
                                                        have H1 : (none) = some r := by rw [if_neg (show ¬ (false = true) by decide)] at H; exact H
                                                        clear H
                                                        have H := H1
                                                        clear H1
                                                        exact absurd H (by simp)
                                                    · rw [if_neg c48] at H
                                                      exact absurd H (by simp)
                                                  · replace c47 := Bool.eq_false_iff.mpr c47
                                                    subst c47
                                                    have H1 : (if x7_2 < ((rd_L7 t182 x8_4).length : Int) then (if rdOf false (rd_L7 t182 x8_4) x7_2 = true then (if x7_2 = x8_4 then (palinglaw14_GraphAbove.l2 k5 l0 t179 t182 t185 x7_2 x8_4 (wrap64 (x9_5 + 1))) else (none)) else (palinglaw14_GraphAbove.l2 k5 l0 t179 t182 t185 x7_2 x8_4 (wrap64 (x9_5 + 1)))) else (none)) = some r := by rw [if_neg (show ¬ (false = true) by decide)] at H; exact H
                                                    clear H
                                                    have H := H1
                                                    clear H1
                                                    by_cases c59 : x7_2 < ((rd_L7 t182 x8_4).length : Int)
                                                    · rw [if_pos c59] at H
                                                      have c59b0 : decide (x7_2 < ((rd_L7 t182 x8_4).length : Int)) = true := decide_eq_true c59
                                                      clear c59
                                                      obtain ⟨bq60, hbq60⟩ : ∃ b_ : Bool, b_ = (rdOf false (rd_L7 t182 x8_4) x7_2) := ⟨_, rfl⟩
                                                      replace H : (if bq60 = true then (if x7_2 = x8_4 then (palinglaw14_GraphAbove.l2 k5 l0 t179 t182 t185 x7_2 x8_4 (wrap64 (x9_5 + 1))) else (none)) else (palinglaw14_GraphAbove.l2 k5 l0 t179 t182 t185 x7_2 x8_4 (wrap64 (x9_5 + 1)))) = some r := by rw [← hbq60] at H; exact H
                                                      have Nbq60 := Aside0.mk hbq60
                                                      clear hbq60
                                                      by_cases c61 : bq60 = true
                                                      · subst c61
                                                        have H1 : (if x7_2 = x8_4 then (palinglaw14_GraphAbove.l2 k5 l0 t179 t182 t185 x7_2 x8_4 (wrap64 (x9_5 + 1))) else (none)) = some r := by rw [if_pos rfl] at H; exact H
                                                        clear H
                                                        have H := H1
                                                        clear H1
                                                        by_cases c62 : x7_2 = x8_4
                                                        · rw [if_pos c62] at H
                                                          have c62b0 : (x7_2 == x8_4) = true := beq_iff_eq.mpr c62
                                                          have c62b1 : (x7_2 != x8_4) = false := bne_eq_false_iff_eq.mpr c62
                                                          clear c62
                                                          have H' := Aside0.mk H
                                                          clear H
                                                          obtain ⟨Ao63, co63, eo63⟩ := Kd.S_slice HO_5.out
                                                          subst eo63
                                                          have p196 : 0 ≤ (x7_2 : Int) := of_decide_eq_true (by first | (with_reducible assumption) | assumption)
                                                          have q196 : x7_2 < (t182.length : Int) := of_decide_eq_true (by first | (with_reducible assumption) | assumption)
                                                          obtain ⟨ad196, A196_0, c196_0, e196, hx196_0, hl196_0, hi196_0⟩ := at_L7 (Kd.S_reads' HO_5.out).2.2 x7_2 p196 q196
                                                          cases e196
                                                          obtain ⟨ce196, hce196, hMe196, hcc196⟩ := Kd.S_get HO_5.out [] x7_2 p196 (by first | exact q196 | exact of_decide_eq_true (by first | (with_reducible assumption) | assumption) | (have e_ := (Kd.S_reads' HO_5.out).1; omega))
                                                          obtain ⟨ve196_0, rfl, ge196_0⟩ := hMe196
                                                          have hv196_0 := hcc196 0 _ rfl
                                                          rw [Nat.add_zero, show ((Kd.slice 4 Kd.bool)).sz = 1 from rfl, Nat.mul_one] at hv196_0
                                                          replace hv196_0 := Option.some.inj (hv196_0.symm.trans hx196_0)
                                                          rw [hv196_0] at ge196_0
                                                          have HL196_0 := Aside0.mk (show Kd.R Kd.bool 4 _ _ _ _ (rd_L7 t182 x7_2) from ge196_0)
                                                          clear hv196_0 ge196_0
                                                          clear hcc196 hce196
                                                          have HR196_0 := Aside0.mk hi196_0
                                                          have HC196_0 := Aside0.mk hl196_0
                                                          clear hi196_0 hl196_0
                                                          replace p196 := eq_true p196
                                                          replace q196 := eq_true q196
                                                          have p197 : 0 ≤ (x8_4 : Int) := of_decide_eq_true (by first | (with_reducible assumption) | assumption)
                                                          have q197 : x8_4 < ((rd_L7 t182 x7_2).length : Int) := of_decide_eq_true (by first | (with_reducible assumption) | assumption)
                                                          obtain ⟨ad197, e197, hx197_0⟩ := Kd.at_bool (by repeat (first | (with_reducible exact HR196_0.out) | (with_reducible refine Kd.C_alloc ?_ _) | (with_reducible refine Kd.C_drewN ?_ _) | (with_reducible refine Kd.C_drew ?_) | exact HR196_0.out)) x8_4 p197 q197
                                                          (try rw [← Nbq41.out] at hx197_0)
                                                          (try rw [← Nbq46.out] at hx197_0)
                                                          (try rw [← Nbq60.out] at hx197_0)
                                                          cases e197
                                                          replace p197 := eq_true p197
                                                          replace q197 := eq_true q197
                                                          have p198 : 0 ≤ (x8_4 : Int) := of_decide_eq_true (by first | (with_reducible assumption) | assumption)
                                                          have q198 : x8_4 < (t182.length : Int) := of_decide_eq_true (by first | (with_reducible assumption) | assumption)
                                                          obtain ⟨ad198, A198_0, c198_0, e198, hx198_0, hl198_0, hi198_0⟩ := at_L7 (Kd.S_reads' HO_5.out).2.2 x8_4 p198 q198
                                                          obtain rfl : ad196 = ad198 := (by injection e198)
                                                          obtain ⟨ce198, hce198, hMe198, hcc198⟩ := Kd.S_get HO_5.out [] x8_4 p198 (by first | exact q198 | exact of_decide_eq_true (by first | (with_reducible assumption) | assumption) | (have e_ := (Kd.S_reads' HO_5.out).1; omega))
                                                          obtain ⟨ve198_0, rfl, ge198_0⟩ := hMe198
                                                          have hv198_0 := hcc198 0 _ rfl
                                                          rw [Nat.add_zero, show ((Kd.slice 4 Kd.bool)).sz = 1 from rfl, Nat.mul_one] at hv198_0
                                                          replace hv198_0 := Option.some.inj (hv198_0.symm.trans hx198_0)
                                                          rw [hv198_0] at ge198_0
                                                          have HL198_0 := Aside0.mk (show Kd.R Kd.bool 4 _ _ _ _ (rd_L7 t182 x8_4) from ge198_0)
                                                          clear hv198_0 ge198_0
                                                          clear hcc198 hce198
                                                          have HR198_0 := Aside0.mk hi198_0
                                                          have HC198_0 := Aside0.mk hl198_0
                                                          clear hi198_0 hl198_0
                                                          replace p198 := eq_true p198
                                                          replace q198 := eq_true q198
                                                          have p199 : 0 ≤ (x9_5 : Int) := of_decide_eq_true (by first | (with_reducible assumption) | assumption)
                                                          have q199 : x9_5 < ((rd_L7 t182 x8_4).length : Int) := of_decide_eq_true (by first | (with_reducible assumption) | assumption)
                                                          obtain ⟨ad199, e199, hx199_0⟩ := Kd.at_bool (by repeat (first | (with_reducible exact HR198_0.out) | (with_reducible refine Kd.C_alloc ?_ _) | (with_reducible refine Kd.C_drewN ?_ _) | (with_reducible refine Kd.C_drew ?_) | exact HR198_0.out)) x9_5 p199 q199
                                                          (try rw [← Nbq41.out] at hx199_0)
                                                          (try rw [← Nbq46.out] at hx199_0)
                                                          (try rw [← Nbq60.out] at hx199_0)
                                                          cases e199
                                                          replace p199 := eq_true p199
                                                          replace q199 := eq_true q199
                                                          have p206 : 0 ≤ (x7_2 : Int) := of_decide_eq_true (by first | (with_reducible assumption) | assumption)
                                                          have q206 : x7_2 < (t182.length : Int) := of_decide_eq_true (by first | (with_reducible assumption) | assumption)
                                                          obtain ⟨ad206, A206_0, c206_0, e206, hx206_0, hl206_0, hi206_0⟩ := at_L7 (Kd.S_reads' HO_5.out).2.2 x7_2 p206 q206
                                                          obtain rfl : ad196 = ad206 := (by injection e206)
                                                          obtain ⟨ce206, hce206, hMe206, hcc206⟩ := Kd.S_get HO_5.out [] x7_2 p206 (by first | exact q206 | exact of_decide_eq_true (by first | (with_reducible assumption) | assumption) | (have e_ := (Kd.S_reads' HO_5.out).1; omega))
                                                          obtain ⟨ve206_0, rfl, ge206_0⟩ := hMe206
                                                          have hv206_0 := hcc206 0 _ rfl
                                                          rw [Nat.add_zero, show ((Kd.slice 4 Kd.bool)).sz = 1 from rfl, Nat.mul_one] at hv206_0
                                                          replace hv206_0 := Option.some.inj (hv206_0.symm.trans hx206_0)
                                                          rw [hv206_0] at ge206_0
                                                          have HL206_0 := Aside0.mk (show Kd.R Kd.bool 4 _ _ _ _ (rd_L7 t182 x7_2) from ge206_0)
                                                          clear hv206_0 ge206_0
                                                          clear hcc206 hce206
                                                          have HR206_0 := Aside0.mk hi206_0
                                                          have HC206_0 := Aside0.mk hl206_0
                                                          clear hi206_0 hl206_0
                                                          replace p206 := eq_true p206
                                                          replace q206 := eq_true q206
                                                          have ea_ := Option.some.inj (hx196_0.symm.trans hx206_0)
                                                          injection ea_ with ea_ en_ ec_
                                                          subst ea_
                                                          subst ec_
                                                          clear en_
                                                          have p207 : 0 ≤ (x8_4 : Int) := of_decide_eq_true (by first | (with_reducible assumption) | assumption)
                                                          have q207 : x8_4 < ((rd_L7 t182 x7_2).length : Int) := of_decide_eq_true (by first | (with_reducible assumption) | assumption)
                                                          obtain ⟨ad207, e207, hx207_0⟩ := Kd.at_bool (by repeat (first | (with_reducible exact HR206_0.out) | (with_reducible refine Kd.C_alloc ?_ _) | (with_reducible refine Kd.C_drewN ?_ _) | (with_reducible refine Kd.C_drew ?_) | exact HR206_0.out)) x8_4 p207 q207
                                                          (try rw [← Nbq41.out] at hx207_0)
                                                          (try rw [← Nbq46.out] at hx207_0)
                                                          (try rw [← Nbq60.out] at hx207_0)
                                                          cases e207
                                                          replace p207 := eq_true p207
                                                          replace q207 := eq_true q207
                                                          have p208 : 0 ≤ (x8_4 : Int) := of_decide_eq_true (by first | (with_reducible assumption) | assumption)
                                                          have q208 : x8_4 < (t182.length : Int) := of_decide_eq_true (by first | (with_reducible assumption) | assumption)
                                                          obtain ⟨ad208, A208_0, c208_0, e208, hx208_0, hl208_0, hi208_0⟩ := at_L7 (Kd.S_reads' HO_5.out).2.2 x8_4 p208 q208
                                                          obtain rfl : ad196 = ad208 := (by injection e208)
                                                          obtain ⟨ce208, hce208, hMe208, hcc208⟩ := Kd.S_get HO_5.out [] x8_4 p208 (by first | exact q208 | exact of_decide_eq_true (by first | (with_reducible assumption) | assumption) | (have e_ := (Kd.S_reads' HO_5.out).1; omega))
                                                          obtain ⟨ve208_0, rfl, ge208_0⟩ := hMe208
                                                          have hv208_0 := hcc208 0 _ rfl
                                                          rw [Nat.add_zero, show ((Kd.slice 4 Kd.bool)).sz = 1 from rfl, Nat.mul_one] at hv208_0
                                                          replace hv208_0 := Option.some.inj (hv208_0.symm.trans hx208_0)
                                                          rw [hv208_0] at ge208_0
                                                          have HL208_0 := Aside0.mk (show Kd.R Kd.bool 4 _ _ _ _ (rd_L7 t182 x8_4) from ge208_0)
                                                          clear hv208_0 ge208_0
                                                          clear hcc208 hce208
                                                          have HR208_0 := Aside0.mk hi208_0
                                                          have HC208_0 := Aside0.mk hl208_0
                                                          clear hi208_0 hl208_0
                                                          replace p208 := eq_true p208
                                                          replace q208 := eq_true q208
                                                          have ea_ := Option.some.inj (hx198_0.symm.trans hx208_0)
                                                          injection ea_ with ea_ en_ ec_
                                                          subst ea_
                                                          subst ec_
                                                          clear en_
                                                          have p209 : 0 ≤ (x7_2 : Int) := of_decide_eq_true (by first | (with_reducible assumption) | assumption)
                                                          have q209 : x7_2 < ((rd_L7 t182 x8_4).length : Int) := of_decide_eq_true (by first | (with_reducible assumption) | assumption)
                                                          obtain ⟨ad209, e209, hx209_0⟩ := Kd.at_bool (by repeat (first | (with_reducible exact HR208_0.out) | (with_reducible refine Kd.C_alloc ?_ _) | (with_reducible refine Kd.C_drewN ?_ _) | (with_reducible refine Kd.C_drew ?_) | exact HR208_0.out)) x7_2 p209 q209
                                                          (try rw [← Nbq41.out] at hx209_0)
                                                          (try rw [← Nbq46.out] at hx209_0)
                                                          (try rw [← Nbq60.out] at hx209_0)
                                                          cases e209
                                                          replace p209 := eq_true p209
                                                          replace q209 := eq_true q209
                                                          go_wp2
                                                          repeat (go_quiet (fail); try go_wp2)
                                                          go_roundg k5
                                                          case measure => have := HJ3.out; have := HK2.out; have := HJ14.out; have := HK4.out; have := HK5.out; omega
                                                          case rel => exact ⟨(wrap64 (x9_5 + 1)), (by first | rfl | (simp; done) | (simp [*]; done)), H', ⟨by have := HJ3.out; have := HK2.out; have := HJ14.out; have := HK4.out; have := HK5.out; omega⟩, ⟨by (with_reducible repeat (first | apply Kd.R_alloc | apply Kd.R_drewN | apply Kd.R_drew)); exact HO_4.out⟩, ⟨by (with_reducible repeat (first | apply Kd.S_alloc | apply Kd.S_drewN | apply Kd.S_drew)); exact HO_5.out⟩, ⟨by (with_reducible repeat (first | apply Kd.S_alloc | apply Kd.S_drewN | apply Kd.S_drew)); exact HO_6.out⟩, ⟨by repeat (first | (with_reducible first | exact HB.out | apply below_alloc | apply pw_below_drewN | apply below_drew1) | exact HB.out)⟩⟩
                                                        · rw [if_neg c62] at H
                                                          have c62b0 : (x7_2 == x8_4) = false := beq_eq_false_iff_ne.mpr c62
                                                          have c62b1 : (x7_2 != x8_4) = true := bne_iff_ne.mpr c62
                                                          exact absurd H (by simp)
                                                      · replace c61 := Bool.eq_false_iff.mpr c61
                                                        subst c61
                                                        have H1 : (palinglaw14_GraphAbove.l2 k5 l0 t179 t182 t185 x7_2 x8_4 (wrap64 (x9_5 + 1))) = some r := by rw [if_neg (show ¬ (false = true) by decide)] at H; exact H
                                                        clear H
                                                        have H := H1
                                                        clear H1
                                                        have H' := Aside0.mk H
                                                        clear H
                                                        obtain ⟨Ao65, co65, eo65⟩ := Kd.S_slice HO_5.out
                                                        subst eo65
                                                        have p196 : 0 ≤ (x7_2 : Int) := of_decide_eq_true (by first | (with_reducible assumption) | assumption)
                                                        have q196 : x7_2 < (t182.length : Int) := of_decide_eq_true (by first | (with_reducible assumption) | assumption)
                                                        obtain ⟨ad196, A196_0, c196_0, e196, hx196_0, hl196_0, hi196_0⟩ := at_L7 (Kd.S_reads' HO_5.out).2.2 x7_2 p196 q196
                                                        cases e196
                                                        obtain ⟨ce196, hce196, hMe196, hcc196⟩ := Kd.S_get HO_5.out [] x7_2 p196 (by first | exact q196 | exact of_decide_eq_true (by first | (with_reducible assumption) | assumption) | (have e_ := (Kd.S_reads' HO_5.out).1; omega))
                                                        obtain ⟨ve196_0, rfl, ge196_0⟩ := hMe196
                                                        have hv196_0 := hcc196 0 _ rfl
                                                        rw [Nat.add_zero, show ((Kd.slice 4 Kd.bool)).sz = 1 from rfl, Nat.mul_one] at hv196_0
                                                        replace hv196_0 := Option.some.inj (hv196_0.symm.trans hx196_0)
                                                        rw [hv196_0] at ge196_0
                                                        have HL196_0 := Aside0.mk (show Kd.R Kd.bool 4 _ _ _ _ (rd_L7 t182 x7_2) from ge196_0)
                                                        clear hv196_0 ge196_0
                                                        clear hcc196 hce196
                                                        have HR196_0 := Aside0.mk hi196_0
                                                        have HC196_0 := Aside0.mk hl196_0
                                                        clear hi196_0 hl196_0
                                                        replace p196 := eq_true p196
                                                        replace q196 := eq_true q196
                                                        have p197 : 0 ≤ (x8_4 : Int) := of_decide_eq_true (by first | (with_reducible assumption) | assumption)
                                                        have q197 : x8_4 < ((rd_L7 t182 x7_2).length : Int) := of_decide_eq_true (by first | (with_reducible assumption) | assumption)
                                                        obtain ⟨ad197, e197, hx197_0⟩ := Kd.at_bool (by repeat (first | (with_reducible exact HR196_0.out) | (with_reducible refine Kd.C_alloc ?_ _) | (with_reducible refine Kd.C_drewN ?_ _) | (with_reducible refine Kd.C_drew ?_) | exact HR196_0.out)) x8_4 p197 q197
                                                        (try rw [← Nbq41.out] at hx197_0)
                                                        (try rw [← Nbq46.out] at hx197_0)
                                                        (try rw [← Nbq60.out] at hx197_0)
                                                        cases e197
                                                        replace p197 := eq_true p197
                                                        replace q197 := eq_true q197
                                                        have p198 : 0 ≤ (x8_4 : Int) := of_decide_eq_true (by first | (with_reducible assumption) | assumption)
                                                        have q198 : x8_4 < (t182.length : Int) := of_decide_eq_true (by first | (with_reducible assumption) | assumption)
                                                        obtain ⟨ad198, A198_0, c198_0, e198, hx198_0, hl198_0, hi198_0⟩ := at_L7 (Kd.S_reads' HO_5.out).2.2 x8_4 p198 q198
                                                        obtain rfl : ad196 = ad198 := (by injection e198)
                                                        obtain ⟨ce198, hce198, hMe198, hcc198⟩ := Kd.S_get HO_5.out [] x8_4 p198 (by first | exact q198 | exact of_decide_eq_true (by first | (with_reducible assumption) | assumption) | (have e_ := (Kd.S_reads' HO_5.out).1; omega))
                                                        obtain ⟨ve198_0, rfl, ge198_0⟩ := hMe198
                                                        have hv198_0 := hcc198 0 _ rfl
                                                        rw [Nat.add_zero, show ((Kd.slice 4 Kd.bool)).sz = 1 from rfl, Nat.mul_one] at hv198_0
                                                        replace hv198_0 := Option.some.inj (hv198_0.symm.trans hx198_0)
                                                        rw [hv198_0] at ge198_0
                                                        have HL198_0 := Aside0.mk (show Kd.R Kd.bool 4 _ _ _ _ (rd_L7 t182 x8_4) from ge198_0)
                                                        clear hv198_0 ge198_0
                                                        clear hcc198 hce198
                                                        have HR198_0 := Aside0.mk hi198_0
                                                        have HC198_0 := Aside0.mk hl198_0
                                                        clear hi198_0 hl198_0
                                                        replace p198 := eq_true p198
                                                        replace q198 := eq_true q198
                                                        have p199 : 0 ≤ (x9_5 : Int) := of_decide_eq_true (by first | (with_reducible assumption) | assumption)
                                                        have q199 : x9_5 < ((rd_L7 t182 x8_4).length : Int) := of_decide_eq_true (by first | (with_reducible assumption) | assumption)
                                                        obtain ⟨ad199, e199, hx199_0⟩ := Kd.at_bool (by repeat (first | (with_reducible exact HR198_0.out) | (with_reducible refine Kd.C_alloc ?_ _) | (with_reducible refine Kd.C_drewN ?_ _) | (with_reducible refine Kd.C_drew ?_) | exact HR198_0.out)) x9_5 p199 q199
                                                        (try rw [← Nbq41.out] at hx199_0)
                                                        (try rw [← Nbq46.out] at hx199_0)
                                                        (try rw [← Nbq60.out] at hx199_0)
                                                        cases e199
                                                        replace p199 := eq_true p199
                                                        replace q199 := eq_true q199
                                                        have p206 : 0 ≤ (x7_2 : Int) := of_decide_eq_true (by first | (with_reducible assumption) | assumption)
                                                        have q206 : x7_2 < (t182.length : Int) := of_decide_eq_true (by first | (with_reducible assumption) | assumption)
                                                        obtain ⟨ad206, A206_0, c206_0, e206, hx206_0, hl206_0, hi206_0⟩ := at_L7 (Kd.S_reads' HO_5.out).2.2 x7_2 p206 q206
                                                        obtain rfl : ad196 = ad206 := (by injection e206)
                                                        obtain ⟨ce206, hce206, hMe206, hcc206⟩ := Kd.S_get HO_5.out [] x7_2 p206 (by first | exact q206 | exact of_decide_eq_true (by first | (with_reducible assumption) | assumption) | (have e_ := (Kd.S_reads' HO_5.out).1; omega))
                                                        obtain ⟨ve206_0, rfl, ge206_0⟩ := hMe206
                                                        have hv206_0 := hcc206 0 _ rfl
                                                        rw [Nat.add_zero, show ((Kd.slice 4 Kd.bool)).sz = 1 from rfl, Nat.mul_one] at hv206_0
                                                        replace hv206_0 := Option.some.inj (hv206_0.symm.trans hx206_0)
                                                        rw [hv206_0] at ge206_0
                                                        have HL206_0 := Aside0.mk (show Kd.R Kd.bool 4 _ _ _ _ (rd_L7 t182 x7_2) from ge206_0)
                                                        clear hv206_0 ge206_0
                                                        clear hcc206 hce206
                                                        have HR206_0 := Aside0.mk hi206_0
                                                        have HC206_0 := Aside0.mk hl206_0
                                                        clear hi206_0 hl206_0
                                                        replace p206 := eq_true p206
                                                        replace q206 := eq_true q206
                                                        have ea_ := Option.some.inj (hx196_0.symm.trans hx206_0)
                                                        injection ea_ with ea_ en_ ec_
                                                        subst ea_
                                                        subst ec_
                                                        clear en_
                                                        have p207 : 0 ≤ (x8_4 : Int) := of_decide_eq_true (by first | (with_reducible assumption) | assumption)
                                                        have q207 : x8_4 < ((rd_L7 t182 x7_2).length : Int) := of_decide_eq_true (by first | (with_reducible assumption) | assumption)
                                                        obtain ⟨ad207, e207, hx207_0⟩ := Kd.at_bool (by repeat (first | (with_reducible exact HR206_0.out) | (with_reducible refine Kd.C_alloc ?_ _) | (with_reducible refine Kd.C_drewN ?_ _) | (with_reducible refine Kd.C_drew ?_) | exact HR206_0.out)) x8_4 p207 q207
                                                        (try rw [← Nbq41.out] at hx207_0)
                                                        (try rw [← Nbq46.out] at hx207_0)
                                                        (try rw [← Nbq60.out] at hx207_0)
                                                        cases e207
                                                        replace p207 := eq_true p207
                                                        replace q207 := eq_true q207
                                                        have p208 : 0 ≤ (x8_4 : Int) := of_decide_eq_true (by first | (with_reducible assumption) | assumption)
                                                        have q208 : x8_4 < (t182.length : Int) := of_decide_eq_true (by first | (with_reducible assumption) | assumption)
                                                        obtain ⟨ad208, A208_0, c208_0, e208, hx208_0, hl208_0, hi208_0⟩ := at_L7 (Kd.S_reads' HO_5.out).2.2 x8_4 p208 q208
                                                        obtain rfl : ad196 = ad208 := (by injection e208)
                                                        obtain ⟨ce208, hce208, hMe208, hcc208⟩ := Kd.S_get HO_5.out [] x8_4 p208 (by first | exact q208 | exact of_decide_eq_true (by first | (with_reducible assumption) | assumption) | (have e_ := (Kd.S_reads' HO_5.out).1; omega))
                                                        obtain ⟨ve208_0, rfl, ge208_0⟩ := hMe208
                                                        have hv208_0 := hcc208 0 _ rfl
                                                        rw [Nat.add_zero, show ((Kd.slice 4 Kd.bool)).sz = 1 from rfl, Nat.mul_one] at hv208_0
                                                        replace hv208_0 := Option.some.inj (hv208_0.symm.trans hx208_0)
                                                        rw [hv208_0] at ge208_0
                                                        have HL208_0 := Aside0.mk (show Kd.R Kd.bool 4 _ _ _ _ (rd_L7 t182 x8_4) from ge208_0)
                                                        clear hv208_0 ge208_0
                                                        clear hcc208 hce208
                                                        have HR208_0 := Aside0.mk hi208_0
                                                        have HC208_0 := Aside0.mk hl208_0
                                                        clear hi208_0 hl208_0
                                                        replace p208 := eq_true p208
                                                        replace q208 := eq_true q208
                                                        have ea_ := Option.some.inj (hx198_0.symm.trans hx208_0)
                                                        injection ea_ with ea_ en_ ec_
                                                        subst ea_
                                                        subst ec_
                                                        clear en_
                                                        have p209 : 0 ≤ (x7_2 : Int) := of_decide_eq_true (by first | (with_reducible assumption) | assumption)
                                                        have q209 : x7_2 < ((rd_L7 t182 x8_4).length : Int) := of_decide_eq_true (by first | (with_reducible assumption) | assumption)
                                                        obtain ⟨ad209, e209, hx209_0⟩ := Kd.at_bool (by repeat (first | (with_reducible exact HR208_0.out) | (with_reducible refine Kd.C_alloc ?_ _) | (with_reducible refine Kd.C_drewN ?_ _) | (with_reducible refine Kd.C_drew ?_) | exact HR208_0.out)) x7_2 p209 q209
                                                        (try rw [← Nbq41.out] at hx209_0)
                                                        (try rw [← Nbq46.out] at hx209_0)
                                                        (try rw [← Nbq60.out] at hx209_0)
                                                        cases e209
                                                        replace p209 := eq_true p209
                                                        replace q209 := eq_true q209
                                                        go_wp2
                                                        repeat (go_quiet (fail); try go_wp2)
                                                        go_roundg k5
                                                        case measure => have := HJ3.out; have := HK2.out; have := HJ14.out; have := HK4.out; have := HK5.out; omega
                                                        case rel => exact ⟨(wrap64 (x9_5 + 1)), (by first | rfl | (simp; done) | (simp [*]; done)), H', ⟨by have := HJ3.out; have := HK2.out; have := HJ14.out; have := HK4.out; have := HK5.out; omega⟩, ⟨by (with_reducible repeat (first | apply Kd.R_alloc | apply Kd.R_drewN | apply Kd.R_drew)); exact HO_4.out⟩, ⟨by (with_reducible repeat (first | apply Kd.S_alloc | apply Kd.S_drewN | apply Kd.S_drew)); exact HO_5.out⟩, ⟨by (with_reducible repeat (first | apply Kd.S_alloc | apply Kd.S_drewN | apply Kd.S_drew)); exact HO_6.out⟩, ⟨by repeat (first | (with_reducible first | exact HB.out | apply below_alloc | apply pw_below_drewN | apply below_drew1) | exact HB.out)⟩⟩
                                                    · rw [if_neg c59] at H
                                                      exact absurd H (by simp)
                                                · rw [if_neg c45] at H
                                                  exact absurd H (by simp)
                                              · rw [if_neg c44] at H
                                                exact absurd H (by simp)
                                            · rw [if_neg c43] at H
                                              exact absurd H (by simp)
                                          · replace c42 := Bool.eq_false_iff.mpr c42
                                            subst c42
                                            have H1 : (palinglaw14_GraphAbove.l2 k5 l0 t179 t182 t185 x7_2 x8_4 (wrap64 (x9_5 + 1))) = some r := by rw [if_neg (show ¬ (false = true) by decide)] at H; exact H
                                            clear H
                                            have H := H1
                                            clear H1
                                            have H' := Aside0.mk H
                                            clear H
                                            obtain ⟨Ao66, co66, eo66⟩ := Kd.S_slice HO_5.out
                                            subst eo66
                                            have p196 : 0 ≤ (x7_2 : Int) := of_decide_eq_true (by first | (with_reducible assumption) | assumption)
                                            have q196 : x7_2 < (t182.length : Int) := of_decide_eq_true (by first | (with_reducible assumption) | assumption)
                                            obtain ⟨ad196, A196_0, c196_0, e196, hx196_0, hl196_0, hi196_0⟩ := at_L7 (Kd.S_reads' HO_5.out).2.2 x7_2 p196 q196
                                            cases e196
                                            obtain ⟨ce196, hce196, hMe196, hcc196⟩ := Kd.S_get HO_5.out [] x7_2 p196 (by first | exact q196 | exact of_decide_eq_true (by first | (with_reducible assumption) | assumption) | (have e_ := (Kd.S_reads' HO_5.out).1; omega))
                                            obtain ⟨ve196_0, rfl, ge196_0⟩ := hMe196
                                            have hv196_0 := hcc196 0 _ rfl
                                            rw [Nat.add_zero, show ((Kd.slice 4 Kd.bool)).sz = 1 from rfl, Nat.mul_one] at hv196_0
                                            replace hv196_0 := Option.some.inj (hv196_0.symm.trans hx196_0)
                                            rw [hv196_0] at ge196_0
                                            have HL196_0 := Aside0.mk (show Kd.R Kd.bool 4 _ _ _ _ (rd_L7 t182 x7_2) from ge196_0)
                                            clear hv196_0 ge196_0
                                            clear hcc196 hce196
                                            have HR196_0 := Aside0.mk hi196_0
                                            have HC196_0 := Aside0.mk hl196_0
                                            clear hi196_0 hl196_0
                                            replace p196 := eq_true p196
                                            replace q196 := eq_true q196
                                            have p197 : 0 ≤ (x8_4 : Int) := of_decide_eq_true (by first | (with_reducible assumption) | assumption)
                                            have q197 : x8_4 < ((rd_L7 t182 x7_2).length : Int) := of_decide_eq_true (by first | (with_reducible assumption) | assumption)
                                            obtain ⟨ad197, e197, hx197_0⟩ := Kd.at_bool (by repeat (first | (with_reducible exact HR196_0.out) | (with_reducible refine Kd.C_alloc ?_ _) | (with_reducible refine Kd.C_drewN ?_ _) | (with_reducible refine Kd.C_drew ?_) | exact HR196_0.out)) x8_4 p197 q197
                                            (try rw [← Nbq41.out] at hx197_0)
                                            cases e197
                                            replace p197 := eq_true p197
                                            replace q197 := eq_true q197
                                            have p210 : 0 ≤ (x7_2 : Int) := of_decide_eq_true (by first | (with_reducible assumption) | assumption)
                                            have q210 : x7_2 < (t182.length : Int) := of_decide_eq_true (by first | (with_reducible assumption) | assumption)
                                            obtain ⟨ad210, A210_0, c210_0, e210, hx210_0, hl210_0, hi210_0⟩ := at_L7 (Kd.S_reads' HO_5.out).2.2 x7_2 p210 q210
                                            obtain rfl : ad196 = ad210 := (by injection e210)
                                            obtain ⟨ce210, hce210, hMe210, hcc210⟩ := Kd.S_get HO_5.out [] x7_2 p210 (by first | exact q210 | exact of_decide_eq_true (by first | (with_reducible assumption) | assumption) | (have e_ := (Kd.S_reads' HO_5.out).1; omega))
                                            obtain ⟨ve210_0, rfl, ge210_0⟩ := hMe210
                                            have hv210_0 := hcc210 0 _ rfl
                                            rw [Nat.add_zero, show ((Kd.slice 4 Kd.bool)).sz = 1 from rfl, Nat.mul_one] at hv210_0
                                            replace hv210_0 := Option.some.inj (hv210_0.symm.trans hx210_0)
                                            rw [hv210_0] at ge210_0
                                            have HL210_0 := Aside0.mk (show Kd.R Kd.bool 4 _ _ _ _ (rd_L7 t182 x7_2) from ge210_0)
                                            clear hv210_0 ge210_0
                                            clear hcc210 hce210
                                            have HR210_0 := Aside0.mk hi210_0
                                            have HC210_0 := Aside0.mk hl210_0
                                            clear hi210_0 hl210_0
                                            replace p210 := eq_true p210
                                            replace q210 := eq_true q210
                                            have ea_ := Option.some.inj (hx196_0.symm.trans hx210_0)
                                            injection ea_ with ea_ en_ ec_
                                            subst ea_
                                            subst ec_
                                            clear en_
                                            have p211 : 0 ≤ (x8_4 : Int) := of_decide_eq_true (by first | (with_reducible assumption) | assumption)
                                            have q211 : x8_4 < ((rd_L7 t182 x7_2).length : Int) := of_decide_eq_true (by first | (with_reducible assumption) | assumption)
                                            obtain ⟨ad211, e211, hx211_0⟩ := Kd.at_bool (by repeat (first | (with_reducible exact HR210_0.out) | (with_reducible refine Kd.C_alloc ?_ _) | (with_reducible refine Kd.C_drewN ?_ _) | (with_reducible refine Kd.C_drew ?_) | exact HR210_0.out)) x8_4 p211 q211
                                            (try rw [← Nbq41.out] at hx211_0)
                                            cases e211
                                            replace p211 := eq_true p211
                                            replace q211 := eq_true q211
                                            go_wp2
                                            repeat (go_quiet (fail); try go_wp2)
                                            go_roundg k5
                                            case measure => have := HJ3.out; have := HK2.out; have := HJ14.out; have := HK4.out; have := HK5.out; omega
                                            case rel => exact ⟨(wrap64 (x9_5 + 1)), (by first | rfl | (simp; done) | (simp [*]; done)), H', ⟨by have := HJ3.out; have := HK2.out; have := HJ14.out; have := HK4.out; have := HK5.out; omega⟩, ⟨by (with_reducible repeat (first | apply Kd.R_alloc | apply Kd.R_drewN | apply Kd.R_drew)); exact HO_4.out⟩, ⟨by (with_reducible repeat (first | apply Kd.S_alloc | apply Kd.S_drewN | apply Kd.S_drew)); exact HO_5.out⟩, ⟨by (with_reducible repeat (first | apply Kd.S_alloc | apply Kd.S_drewN | apply Kd.S_drew)); exact HO_6.out⟩, ⟨by repeat (first | (with_reducible first | exact HB.out | apply below_alloc | apply pw_below_drewN | apply below_drew1) | exact HB.out)⟩⟩
                                        · rw [if_neg c40] at H
                                          exact absurd H (by simp)
                                      · rw [if_neg c39] at H
                                        exact absurd H (by simp)
                                    · rw [if_neg c38] at H
                                      exact absurd H (by simp)
                                  · rw [if_neg c37] at H
                                    exact absurd H (by simp)
                                · rw [if_neg c36] at H
                                  have c36b0 : decide (x9_5 < (l0.length : Int)) = false := decide_eq_false c36
                                  clear c36
                                  have H' := Aside0.mk H
                                  clear H
                                  go_wp2
                                  repeat (go_quiet (fail); try go_wp2)
                                  go_roundg k5
                                  case measure => have := HJ3.out; have := HK2.out; have := HJ14.out; have := HK4.out; have := HK5.out; omega
                                  case rel => exact ⟨(wrap64 (x8_4 + 1)), (by first | rfl | (simp; done) | (simp [*]; done)), H', ⟨by have := HJ3.out; have := HK2.out; have := HJ14.out; have := HK4.out; have := HK5.out; omega⟩, ⟨by (with_reducible repeat (first | apply Kd.R_alloc | apply Kd.R_drewN | apply Kd.R_drew)); exact HO_4.out⟩, ⟨by (with_reducible repeat (first | apply Kd.S_alloc | apply Kd.S_drewN | apply Kd.S_drew)); exact HO_5.out⟩, ⟨by (with_reducible repeat (first | apply Kd.S_alloc | apply Kd.S_drewN | apply Kd.S_drew)); exact HO_6.out⟩, ⟨by repeat (first | (with_reducible first | exact HB.out | apply below_alloc | apply pw_below_drewN | apply below_drew1) | exact HB.out)⟩⟩
                          · rw [if_neg c35] at H
                            have c35b0 : decide (x8_4 < (l0.length : Int)) = false := decide_eq_false c35
                            clear c35
                            have H' := Aside0.mk H
                            clear H
                            go_wp2
                            repeat (go_quiet (fail); try go_wp2)
                            go_roundg k4
                            case measure => have := HJ3.out; have := HK2.out; have := HJ14.out; have := HK4.out; omega
                            case rel => exact ⟨(wrap64 (x7_2 + 1)), (by first | rfl | (simp; done) | (simp [*]; done)), H', ⟨by have := HJ3.out; have := HK2.out; have := HJ14.out; have := HK4.out; omega⟩, ⟨by (with_reducible repeat (first | apply Kd.R_alloc | apply Kd.R_drewN | apply Kd.R_drew)); exact HO_4.out⟩, ⟨by (with_reducible repeat (first | apply Kd.S_alloc | apply Kd.S_drewN | apply Kd.S_drew)); exact HO_5.out⟩, ⟨by (with_reducible repeat (first | apply Kd.S_alloc | apply Kd.S_drewN | apply Kd.S_drew)); exact HO_6.out⟩, ⟨by repeat (first | (with_reducible first | exact HB.out | apply below_alloc | apply pw_below_drewN | apply below_drew1) | exact HB.out)⟩⟩
              · rw [if_neg c14] at H
                have c14b0 : decide (x7_2 < (l0.length : Int)) = false := decide_eq_false c14
                clear c14
                replace H := Option.bind_eq_some_iff.mp H
                obtain ⟨t212, A670, H⟩ := H
                replace H : (palinglaw14_GraphAbove.l3 k2 t182 t212 0) = some r := H
                have A67 := Aside0.mk A670
                clear A670
                have H' := Aside0.mk H
                clear H
                go_wp2_with (first | (go_at_call 16; (with_reducible refine (graph_Loops.calls k2 _ _ l0 t212 _ ?side1 ?side2 A67.out (GlobOK.step HGL.out (by repeat (first | (with_reducible first | exact HB.out | apply below_alloc | apply pw_below_drewN | apply below_drew1) | exact HB.out)))).mono ?_); (case side1 => repeat (first | exact (Kd.C_below HR0.out HB.out) | (with_reducible refine Kd.C_alloc ?_ _) | (with_reducible refine Kd.C_drewN ?_ _) | (with_reducible refine Kd.C_drew ?_))); (case side2 => exact HC0.out); rintro e w68 ⟨v213, rfl, ho0, hb⟩; have n0_ := Aside0.mk (Kd.R_below (by (with_reducible repeat (first | apply Kd.R_alloc | apply Kd.R_drewN | apply Kd.R_drew)); exact HO_4.out) hb); have n1_ := Aside0.mk (Kd.S_below (by (with_reducible repeat (first | apply Kd.S_alloc | apply Kd.S_drewN | apply Kd.S_drew)); exact HO_5.out) hb); have n2_ := Aside0.mk (Kd.S_elder' (by (with_reducible repeat (first | apply Kd.S_alloc | apply Kd.S_drewN | apply Kd.S_drew)); exact HO_6.out) (Kd.S_base ho0) hb); have n3_ := Aside0.mk (Kd.S_lower (Kd.S_new' ho0 (Kd.S_lt (by (with_reducible repeat (first | apply Kd.S_alloc | apply Kd.S_drewN | apply Kd.S_drew)); exact HO_6.out))) (below_size (by repeat (first | (with_reducible first | exact HB.out | apply below_alloc | apply pw_below_drewN | apply below_drew1) | exact HB.out)))); have n4_ := Aside0.mk (below_step (by repeat (first | (with_reducible first | exact HB.out | apply below_alloc | apply pw_below_drewN | apply below_drew1) | exact HB.out)) hb); clear HO_4; clear HO_5; clear HO_6; clear HB; have HO_4 := n0_; have HO_5 := n1_; have HO_6 := n2_; have HO214 := n3_; have HB := n4_; clear n0_ n1_ n2_ n3_ n4_; (try clear hb); (try clear hb2); (try clear hk); (try clear hi); (try clear ho0)))
                repeat (go_quiet (first | (go_at_call 16; (with_reducible refine (graph_Loops.calls k2 _ _ l0 t212 _ ?side1 ?side2 A67.out (GlobOK.step HGL.out (by repeat (first | (with_reducible first | exact HB.out | apply below_alloc | apply pw_below_drewN | apply below_drew1) | exact HB.out)))).mono ?_); (case side1 => repeat (first | exact (Kd.C_below HR0.out HB.out) | (with_reducible refine Kd.C_alloc ?_ _) | (with_reducible refine Kd.C_drewN ?_ _) | (with_reducible refine Kd.C_drew ?_))); (case side2 => exact HC0.out); rintro e w68 ⟨v213, rfl, ho0, hb⟩; have n0_ := Aside0.mk (Kd.R_below (by (with_reducible repeat (first | apply Kd.R_alloc | apply Kd.R_drewN | apply Kd.R_drew)); exact HO_4.out) hb); have n1_ := Aside0.mk (Kd.S_below (by (with_reducible repeat (first | apply Kd.S_alloc | apply Kd.S_drewN | apply Kd.S_drew)); exact HO_5.out) hb); have n2_ := Aside0.mk (Kd.S_elder' (by (with_reducible repeat (first | apply Kd.S_alloc | apply Kd.S_drewN | apply Kd.S_drew)); exact HO_6.out) (Kd.S_base ho0) hb); have n3_ := Aside0.mk (Kd.S_lower (Kd.S_new' ho0 (Kd.S_lt (by (with_reducible repeat (first | apply Kd.S_alloc | apply Kd.S_drewN | apply Kd.S_drew)); exact HO_6.out))) (below_size (by repeat (first | (with_reducible first | exact HB.out | apply below_alloc | apply pw_below_drewN | apply below_drew1) | exact HB.out)))); have n4_ := Aside0.mk (below_step (by repeat (first | (with_reducible first | exact HB.out | apply below_alloc | apply pw_below_drewN | apply below_drew1) | exact HB.out)) hb); clear HO_4; clear HO_5; clear HO_6; clear HB; have HO_4 := n0_; have HO_5 := n1_; have HO_6 := n2_; have HO214 := n3_; have HB := n4_; clear n0_ n1_ n2_ n3_ n4_; (try clear hb); (try clear hb2); (try clear hk); (try clear hi); (try clear ho0))); try go_wp2_with (first | (go_at_call 16; (with_reducible refine (graph_Loops.calls k2 _ _ l0 t212 _ ?side1 ?side2 A67.out (GlobOK.step HGL.out (by repeat (first | (with_reducible first | exact HB.out | apply below_alloc | apply pw_below_drewN | apply below_drew1) | exact HB.out)))).mono ?_); (case side1 => repeat (first | exact (Kd.C_below HR0.out HB.out) | (with_reducible refine Kd.C_alloc ?_ _) | (with_reducible refine Kd.C_drewN ?_ _) | (with_reducible refine Kd.C_drew ?_))); (case side2 => exact HC0.out); rintro e w68 ⟨v213, rfl, ho0, hb⟩; have n0_ := Aside0.mk (Kd.R_below (by (with_reducible repeat (first | apply Kd.R_alloc | apply Kd.R_drewN | apply Kd.R_drew)); exact HO_4.out) hb); have n1_ := Aside0.mk (Kd.S_below (by (with_reducible repeat (first | apply Kd.S_alloc | apply Kd.S_drewN | apply Kd.S_drew)); exact HO_5.out) hb); have n2_ := Aside0.mk (Kd.S_elder' (by (with_reducible repeat (first | apply Kd.S_alloc | apply Kd.S_drewN | apply Kd.S_drew)); exact HO_6.out) (Kd.S_base ho0) hb); have n3_ := Aside0.mk (Kd.S_lower (Kd.S_new' ho0 (Kd.S_lt (by (with_reducible repeat (first | apply Kd.S_alloc | apply Kd.S_drewN | apply Kd.S_drew)); exact HO_6.out))) (below_size (by repeat (first | (with_reducible first | exact HB.out | apply below_alloc | apply pw_below_drewN | apply below_drew1) | exact HB.out)))); have n4_ := Aside0.mk (below_step (by repeat (first | (with_reducible first | exact HB.out | apply below_alloc | apply pw_below_drewN | apply below_drew1) | exact HB.out)) hb); clear HO_4; clear HO_5; clear HO_6; clear HB; have HO_4 := n0_; have HO_5 := n1_; have HO_6 := n2_; have HO214 := n3_; have HB := n4_; clear n0_ n1_ n2_ n3_ n4_; (try clear hb); (try clear hb2); (try clear hk); (try clear hi); (try clear ho0))))
                go_loopg [11] k2 (fun kq v11 w' => ∃ (x11_3 : Int), v11 = .int .i64 x11_3 ∧ Aside0 (palinglaw14_GraphAbove.l3 kq t182 t212 x11_3 = some r) ∧ Aside0 (kq ≤ k2) ∧ Aside0 (Kd.S (Kd.slice 4 Kd.bool) 25 w' w.heap.size (fun _ => True) v183 t182) ∧ Aside0 (Kd.S (Kd.slice 3 (Kd.int .i64)) 34 w' w.heap.size (fun _ => True) v213 t212) ∧ Aside0 (Below w.heap.size w w'))
                case atStart => exact ⟨(0), (by first | rfl | (simp; done) | (simp [*]; done)), H', ⟨Nat.le_refl _⟩, ⟨by (with_reducible repeat (first | apply Kd.S_alloc | apply Kd.S_drewN | apply Kd.S_drew)); exact Kd.S_mono HO_5.out (fun _ hk => trivial)⟩, ⟨by (with_reducible repeat (first | apply Kd.S_alloc | apply Kd.S_drewN | apply Kd.S_drew)); exact Kd.S_mono HO214.out (fun _ hk => trivial)⟩, ⟨by repeat (first | (with_reducible first | exact HB.out | apply below_alloc | apply pw_below_drewN | apply below_drew1) | exact HB.out)⟩⟩
                case round =>
                  as_aux_lemma =>
                  clear H'
                  try clear c1
                  try clear p1
                  try clear q1
                  try clear hx1
                  try clear c2
                  try clear p2
                  try clear q2
                  try clear hx2
                  try clear c3
                  try clear c4
                  try clear q4
                  try clear c5
                  try clear c6
                  try clear p6
                  try clear q6
                  try clear c14
                  try clear c14b0
                  try clear c19
                  try clear p19
                  try clear q19
                  try clear hx19
                  try clear c20
                  try clear p20
                  try clear q20
                  try clear hx20
                  try clear c21
                  try clear p21
                  try clear q21
                  try clear hx21
                  try clear c35
                  try clear c35b0
                  try clear c36
                  try clear c36b0
                  try clear c37
                  try clear c38
                  try clear c39
                  try clear c40
                  try clear q41
                  try clear c42
                  try clear c43
                  try clear c44
                  try clear c45
                  try clear q46
                  try clear c47
                  try clear c48
                  try clear q49
                  try clear c59
                  try clear c59b0
                  try clear q60
                  try clear c61
                  try clear c62
                  try clear c62b0
                  try clear c62b1
                  try clear p64
                  try clear hx196_0
                  try clear hx197_0
                  try clear hx198_0
                  try clear hx199_0
                  try clear hx200_0
                  try clear hx201_0
                  try clear hx206_0
                  try clear hx207_0
                  try clear hx208_0
                  try clear hx209_0
                  try clear hx210_0
                  try clear hx211_0
                  try clear p196
                  try clear p197
                  try clear p198
                  try clear p199
                  try clear p200
                  try clear p201
                  try clear p206
                  try clear p207
                  try clear p208
                  try clear p209
                  try clear p210
                  try clear p211
                  try clear q196
                  try clear q197
                  try clear q198
                  try clear q199
                  try clear q200
                  try clear q201
                  try clear q206
                  try clear q207
                  try clear q208
                  try clear q209
                  try clear q210
                  try clear q211
                  obtain ⟨x11_3, rfl, HA, HK3, HO_5, HO_10, HB⟩ := hrel
                  cases gk with
                  | zero => exact absurd HA.out (by simp [palinglaw14_GraphAbove.l3])
                  | succ k3 =>
                    have H := HA.out
                    clear HA
                    simp only [palinglaw14_GraphAbove.l3] at H
                    by_cases c69 : x11_3 < (t212.length : Int)
                    · rw [if_pos c69] at H
                      have c69b0 : decide (x11_3 < (t212.length : Int)) = true := decide_eq_true c69
                      clear c69
                      have H' := Aside0.mk H
                      clear H
                      obtain ⟨Ao70, co70, eo70⟩ := Kd.S_slice HO_10.out
                      subst eo70
                      go_wp2
                      repeat (go_quiet (fail); try go_wp2)
                      go_loopg [12, 13] k3 (fun kq v12 v13 w' => ∃ (x12_4 : Int) (x13_4 : Int), v12 = .int .i64 x12_4 ∧ v13 = .int .i64 x13_4 ∧ Aside0 (palinglaw14_GraphAbove.l4 kq t182 t212 x11_3 x12_4 x13_4 = some r) ∧ Aside0 (kq ≤ k3) ∧ Aside0 (Kd.S (Kd.slice 4 Kd.bool) 25 w' w.heap.size (fun _ => True) v183 t182) ∧ Aside0 (Kd.S (Kd.slice 3 (Kd.int .i64)) 34 w' w.heap.size (fun _ => True) (.slice Ao70 t212.length co70) t212) ∧ Aside0 (Below w.heap.size w w'))
                      case atStart => exact ⟨(0), (0), (by first | rfl | (simp; done) | (simp [*]; done)), (by first | rfl | (simp; done) | (simp [*]; done)), H', ⟨Nat.le_refl _⟩, ⟨by (with_reducible repeat (first | apply Kd.S_alloc | apply Kd.S_drewN | apply Kd.S_drew)); exact HO_5.out⟩, ⟨by (with_reducible repeat (first | apply Kd.S_alloc | apply Kd.S_drewN | apply Kd.S_drew)); exact HO_10.out⟩, ⟨by repeat (first | (with_reducible first | exact HB.out | apply below_alloc | apply pw_below_drewN | apply below_drew1) | exact HB.out)⟩⟩
                      case round =>
                        as_aux_lemma =>
                        clear H'
                        try clear c1
                        try clear p1
                        try clear q1
                        try clear hx1
                        try clear c2
                        try clear p2
                        try clear q2
                        try clear hx2
                        try clear c3
                        try clear c4
                        try clear q4
                        try clear c5
                        try clear c6
                        try clear p6
                        try clear q6
                        try clear c14
                        try clear c14b0
                        try clear c19
                        try clear p19
                        try clear q19
                        try clear hx19
                        try clear c20
                        try clear p20
                        try clear q20
                        try clear hx20
                        try clear c21
                        try clear p21
                        try clear q21
                        try clear hx21
                        try clear c35
                        try clear c35b0
                        try clear c36
                        try clear c36b0
                        try clear c37
                        try clear c38
                        try clear c39
                        try clear c40
                        try clear q41
                        try clear c42
                        try clear c43
                        try clear c44
                        try clear c45
                        try clear q46
                        try clear c47
                        try clear c48
                        try clear q49
                        try clear c59
                        try clear c59b0
                        try clear q60
                        try clear c61
                        try clear c62
                        try clear c62b0
                        try clear c62b1
                        try clear p64
                        try clear c69
                        try clear c69b0
                        try clear hx196_0
                        try clear hx197_0
                        try clear hx198_0
                        try clear hx199_0
                        try clear hx200_0
                        try clear hx201_0
                        try clear hx206_0
                        try clear hx207_0
                        try clear hx208_0
                        try clear hx209_0
                        try clear hx210_0
                        try clear hx211_0
                        try clear p1
                        try clear p19
                        try clear p196
                        try clear p197
                        try clear p198
                        try clear p199
                        try clear p2
                        try clear p20
                        try clear p200
                        try clear p201
                        try clear p206
                        try clear p207
                        try clear p208
                        try clear p209
                        try clear p21
                        try clear p210
                        try clear p211
                        try clear p6
                        try clear p64
                        try clear q1
                        try clear q19
                        try clear q196
                        try clear q197
                        try clear q198
                        try clear q199
                        try clear q2
                        try clear q20
                        try clear q200
                        try clear q201
                        try clear q206
                        try clear q207
                        try clear q208
                        try clear q209
                        try clear q21
                        try clear q210
                        try clear q211
                        try clear q4
                        try clear q41
                        try clear q46
                        try clear q49
                        try clear q6
                        try clear q60
                        obtain ⟨x12_4, x13_4, rfl, rfl, HA, HK4, HO_5, HO_10, HB⟩ := hrel
                        cases gk with
                        | zero => exact absurd HA.out (by simp [palinglaw14_GraphAbove.l4])
                        | succ k4 =>
                          have H := HA.out
                          clear HA
                          simp only [palinglaw14_GraphAbove.l4] at H
                          by_cases c71 : 0 ≤ x11_3
                          · rw [if_pos c71] at H
                            have c71b0 : decide (0 ≤ x11_3) = true := decide_eq_true c71
                            clear c71
                            by_cases c72 : x11_3 < (t212.length : Int)
                            · rw [if_pos c72] at H
                              have c72b0 : decide (x11_3 < (t212.length : Int)) = true := decide_eq_true c72
                              clear c72
                              by_cases c73 : x13_4 < ((rd_L5 t212 x11_3).length : Int)
                              · rw [if_pos c73] at H
                                have c73b0 : decide (x13_4 < ((rd_L5 t212 x11_3).length : Int)) = true := decide_eq_true c73
                                clear c73
                                have H' := Aside0.mk H
                                clear H
                                have p215 : 0 ≤ (x11_3 : Int) := of_decide_eq_true (by first | (with_reducible assumption) | assumption)
                                have q215 : x11_3 < (t212.length : Int) := of_decide_eq_true (by first | (with_reducible assumption) | assumption)
                                obtain ⟨ad215, A215_0, c215_0, e215, hx215_0, hl215_0, hi215_0⟩ := at_L5 (Kd.S_reads' HO_10.out).2.2 x11_3 p215 q215
                                cases e215
                                obtain ⟨ce215, hce215, hMe215, hcc215⟩ := Kd.S_get HO_10.out [] x11_3 p215 (by first | exact q215 | exact of_decide_eq_true (by first | (with_reducible assumption) | assumption) | (have e_ := (Kd.S_reads' HO_10.out).1; omega))
                                obtain ⟨ve215_0, rfl, ge215_0⟩ := hMe215
                                have hv215_0 := hcc215 0 _ rfl
                                rw [Nat.add_zero, show ((Kd.slice 3 (Kd.int .i64))).sz = 1 from rfl, Nat.mul_one] at hv215_0
                                replace hv215_0 := Option.some.inj (hv215_0.symm.trans hx215_0)
                                rw [hv215_0] at ge215_0
                                have HL215_0 := Aside0.mk (show Kd.R (Kd.int .i64) 3 _ _ _ _ (rd_L5 t212 x11_3) from ge215_0)
                                clear hv215_0 ge215_0
                                clear hcc215 hce215
                                have HR215_0 := Aside0.mk hi215_0
                                have HC215_0 := Aside0.mk hl215_0
                                clear hi215_0 hl215_0
                                replace p215 := eq_true p215
                                replace q215 := eq_true q215
                                go_wp2
                                repeat (go_quiet (fail); try go_wp2)
                                go_loopg [14, 15] k4 (fun kq v14 v15 w' => ∃ (x14_5 : Bool) (x15_5 : Int), v14 = .bool x14_5 ∧ v15 = .int .i64 x15_5 ∧ Aside0 (palinglaw14_GraphAbove.l5 kq t182 t212 x11_3 x12_4 x13_4 x14_5 x15_5 = some r) ∧ Aside0 (kq ≤ k4) ∧ Aside0 (Kd.S (Kd.slice 4 Kd.bool) 25 w' w.heap.size (fun _ => True) v183 t182) ∧ Aside0 (Kd.S (Kd.slice 3 (Kd.int .i64)) 34 w' w.heap.size (fun _ => True) (.slice (some ad215) t212.length co70) t212) ∧ Aside0 (Kd.C (Kd.int .i64) w' A215_0 (rd_L5 t212 x11_3).length (rd_L5 t212 x11_3)) ∧ Aside0 (Below w.heap.size w w'))
                                case atStart => exact ⟨(true), (0), (by first | rfl | (simp; done) | (simp [*]; done)), (by first | rfl | (simp; done) | (simp [*]; done)), H', ⟨Nat.le_refl _⟩, ⟨by (with_reducible repeat (first | apply Kd.S_alloc | apply Kd.S_drewN | apply Kd.S_drew)); exact HO_5.out⟩, ⟨by (with_reducible repeat (first | apply Kd.S_alloc | apply Kd.S_drewN | apply Kd.S_drew)); exact HO_10.out⟩, ⟨by repeat (first | (with_reducible exact HR215_0.out) | (with_reducible refine Kd.C_alloc ?_ _) | (with_reducible refine Kd.C_drewN ?_ _) | (with_reducible refine Kd.C_drew ?_) | exact HR215_0.out)⟩, ⟨by repeat (first | (with_reducible first | exact HB.out | apply below_alloc | apply pw_below_drewN | apply below_drew1) | exact HB.out)⟩⟩
                                case round =>
                                  as_aux_lemma =>
                                  clear H'
                                  try clear c1
                                  try clear p1
                                  try clear q1
                                  try clear hx1
                                  try clear c2
                                  try clear p2
                                  try clear q2
                                  try clear hx2
                                  try clear c3
                                  try clear c4
                                  try clear q4
                                  try clear c5
                                  try clear c6
                                  try clear p6
                                  try clear q6
                                  try clear c7
                                  try clear c14
                                  try clear c14b0
                                  try clear c19
                                  try clear p19
                                  try clear q19
                                  try clear hx19
                                  try clear c20
                                  try clear p20
                                  try clear q20
                                  try clear hx20
                                  try clear c21
                                  try clear p21
                                  try clear q21
                                  try clear hx21
                                  try clear c35
                                  try clear c35b0
                                  try clear c36
                                  try clear c36b0
                                  try clear c37
                                  try clear c38
                                  try clear c39
                                  try clear c40
                                  try clear q41
                                  try clear c42
                                  try clear c43
                                  try clear c44
                                  try clear c45
                                  try clear q46
                                  try clear c47
                                  try clear c48
                                  try clear q49
                                  try clear c59
                                  try clear c59b0
                                  try clear q60
                                  try clear c61
                                  try clear c62
                                  try clear c62b0
                                  try clear c62b1
                                  try clear p64
                                  try clear c69
                                  try clear c69b0
                                  try clear c71
                                  try clear c71b0
                                  try clear c72
                                  try clear c72b0
                                  try clear c73
                                  try clear c73b0
                                  try clear hx196_0
                                  try clear hx197_0
                                  try clear hx198_0
                                  try clear hx199_0
                                  try clear hx200_0
                                  try clear hx201_0
                                  try clear hx206_0
                                  try clear hx207_0
                                  try clear hx208_0
                                  try clear hx209_0
                                  try clear hx210_0
                                  try clear hx211_0
                                  try clear hx215_0
                                  try clear p1
                                  try clear p19
                                  try clear p196
                                  try clear p197
                                  try clear p198
                                  try clear p199
                                  try clear p2
                                  try clear p20
                                  try clear p200
                                  try clear p201
                                  try clear p206
                                  try clear p207
                                  try clear p208
                                  try clear p209
                                  try clear p21
                                  try clear p210
                                  try clear p211
                                  try clear p215
                                  try clear p6
                                  try clear p64
                                  try clear q1
                                  try clear q19
                                  try clear q196
                                  try clear q197
                                  try clear q198
                                  try clear q199
                                  try clear q2
                                  try clear q20
                                  try clear q200
                                  try clear q201
                                  try clear q206
                                  try clear q207
                                  try clear q208
                                  try clear q209
                                  try clear q21
                                  try clear q210
                                  try clear q211
                                  try clear q215
                                  try clear q4
                                  try clear q41
                                  try clear q46
                                  try clear q49
                                  try clear q6
                                  try clear q60
                                  obtain ⟨x14_5, x15_5, rfl, rfl, HA, HK5, HO_5, HO_10, HR215_0, HB⟩ := hrel
                                  cases gk with
                                  | zero => exact absurd HA.out (by simp [palinglaw14_GraphAbove.l5])
                                  | succ k5 =>
                                    have H := HA.out
                                    clear HA
                                    simp only [palinglaw14_GraphAbove.l5] at H
                                    by_cases c74 : 0 ≤ x11_3
                                    · rw [if_pos c74] at H
                                      have c74b0 : decide (0 ≤ x11_3) = true := decide_eq_true c74
                                      clear c74
                                      by_cases c75 : x11_3 < (t212.length : Int)
                                      · rw [if_pos c75] at H
                                        have c75b0 : decide (x11_3 < (t212.length : Int)) = true := decide_eq_true c75
                                        clear c75
                                        by_cases c76 : x15_5 < ((rd_L5 t212 x11_3).length : Int)
                                        · rw [if_pos c76] at H
                                          have c76b0 : decide (x15_5 < ((rd_L5 t212 x11_3).length : Int)) = true := decide_eq_true c76
                                          clear c76
                                          by_cases c77 : x14_5 = true
                                          · subst c77
                                            have H1 : (if 0 ≤ x15_5 then (if 0 ≤ (rd (rd_L5 t212 x11_3) x15_5) then (if (rd (rd_L5 t212 x11_3) x15_5) < (t182.length : Int) then (if 0 ≤ x13_4 then (if x13_4 < ((rd_L5 t212 x11_3).length : Int) then (if 0 ≤ (rd (rd_L5 t212 x11_3) x13_4) then (if (rd (rd_L5 t212 x11_3) x13_4) < ((rd_L7 t182 (rd (rd_L5 t212 x11_3) x15_5)).length : Int) then (palinglaw14_GraphAbove.l5 k5 t182 t212 x11_3 x12_4 x13_4 (rdOf false (rd_L7 t182 (rd (rd_L5 t212 x11_3) x15_5)) (rd (rd_L5 t212 x11_3) x13_4)) (wrap64 (x15_5 + 1))) else (none)) else (none)) else (none)) else (none)) else (none)) else (none)) else (none)) = some r := by rw [if_pos rfl] at H; exact H
                                            clear H
                                            have H := H1
                                            clear H1
                                            by_cases c78 : 0 ≤ x15_5
                                            · rw [if_pos c78] at H
                                              have c78b0 : decide (0 ≤ x15_5) = true := decide_eq_true c78
                                              clear c78
                                              by_cases c79 : 0 ≤ (rd (rd_L5 t212 x11_3) x15_5)
                                              · rw [if_pos c79] at H
                                                have c79b0 : decide (0 ≤ (rd (rd_L5 t212 x11_3) x15_5)) = true := decide_eq_true c79
                                                clear c79
                                                by_cases c80 : (rd (rd_L5 t212 x11_3) x15_5) < (t182.length : Int)
                                                · rw [if_pos c80] at H
                                                  have c80b0 : decide ((rd (rd_L5 t212 x11_3) x15_5) < (t182.length : Int)) = true := decide_eq_true c80
                                                  clear c80
                                                  by_cases c81 : 0 ≤ x13_4
                                                  · rw [if_pos c81] at H
                                                    have c81b0 : decide (0 ≤ x13_4) = true := decide_eq_true c81
                                                    clear c81
                                                    by_cases c82 : x13_4 < ((rd_L5 t212 x11_3).length : Int)
                                                    · rw [if_pos c82] at H
                                                      have c82b0 : decide (x13_4 < ((rd_L5 t212 x11_3).length : Int)) = true := decide_eq_true c82
                                                      clear c82
                                                      by_cases c83 : 0 ≤ (rd (rd_L5 t212 x11_3) x13_4)
                                                      · rw [if_pos c83] at H
                                                        have c83b0 : decide (0 ≤ (rd (rd_L5 t212 x11_3) x13_4)) = true := decide_eq_true c83
                                                        clear c83
                                                        by_cases c84 : (rd (rd_L5 t212 x11_3) x13_4) < ((rd_L7 t182 (rd (rd_L5 t212 x11_3) x15_5)).length : Int)
                                                        · rw [if_pos c84] at H
                                                          have c84b0 : decide ((rd (rd_L5 t212 x11_3) x13_4) < ((rd_L7 t182 (rd (rd_L5 t212 x11_3) x15_5)).length : Int)) = true := decide_eq_true c84
                                                          clear c84
                                                          have H' := Aside0.mk H
                                                          clear H
                                                          have p216 : 0 ≤ (x11_3 : Int) := of_decide_eq_true (by first | (with_reducible assumption) | assumption)
                                                          have q216 : x11_3 < (t212.length : Int) := of_decide_eq_true (by first | (with_reducible assumption) | assumption)
                                                          obtain ⟨ad216, A216_0, c216_0, e216, hx216_0, hl216_0, hi216_0⟩ := at_L5 (Kd.S_reads' HO_10.out).2.2 x11_3 p216 q216
                                                          obtain rfl : ad215 = ad216 := (by injection e216)
                                                          obtain ⟨ce216, hce216, hMe216, hcc216⟩ := Kd.S_get HO_10.out [] x11_3 p216 (by first | exact q216 | exact of_decide_eq_true (by first | (with_reducible assumption) | assumption) | (have e_ := (Kd.S_reads' HO_10.out).1; omega))
                                                          obtain ⟨ve216_0, rfl, ge216_0⟩ := hMe216
                                                          have hv216_0 := hcc216 0 _ rfl
                                                          rw [Nat.add_zero, show ((Kd.slice 3 (Kd.int .i64))).sz = 1 from rfl, Nat.mul_one] at hv216_0
                                                          replace hv216_0 := Option.some.inj (hv216_0.symm.trans hx216_0)
                                                          rw [hv216_0] at ge216_0
                                                          have HL216_0 := Aside0.mk (show Kd.R (Kd.int .i64) 3 _ _ _ _ (rd_L5 t212 x11_3) from ge216_0)
                                                          clear hv216_0 ge216_0
                                                          clear hcc216 hce216
                                                          have HR216_0 := Aside0.mk hi216_0
                                                          have HC216_0 := Aside0.mk hl216_0
                                                          clear hi216_0 hl216_0
                                                          replace p216 := eq_true p216
                                                          replace q216 := eq_true q216
                                                          have p217 : 0 ≤ (x11_3 : Int) := of_decide_eq_true (by first | (with_reducible assumption) | assumption)
                                                          have q217 : x11_3 < (t212.length : Int) := of_decide_eq_true (by first | (with_reducible assumption) | assumption)
                                                          obtain ⟨ad217, A217_0, c217_0, e217, hx217_0, hl217_0, hi217_0⟩ := at_L5 (Kd.S_reads' HO_10.out).2.2 x11_3 p217 q217
                                                          obtain rfl : ad215 = ad217 := (by injection e217)
                                                          obtain ⟨ce217, hce217, hMe217, hcc217⟩ := Kd.S_get HO_10.out [] x11_3 p217 (by first | exact q217 | exact of_decide_eq_true (by first | (with_reducible assumption) | assumption) | (have e_ := (Kd.S_reads' HO_10.out).1; omega))
                                                          obtain ⟨ve217_0, rfl, ge217_0⟩ := hMe217
                                                          have hv217_0 := hcc217 0 _ rfl
                                                          rw [Nat.add_zero, show ((Kd.slice 3 (Kd.int .i64))).sz = 1 from rfl, Nat.mul_one] at hv217_0
                                                          replace hv217_0 := Option.some.inj (hv217_0.symm.trans hx217_0)
                                                          rw [hv217_0] at ge217_0
                                                          have HL217_0 := Aside0.mk (show Kd.R (Kd.int .i64) 3 _ _ _ _ (rd_L5 t212 x11_3) from ge217_0)
                                                          clear hv217_0 ge217_0
                                                          clear hcc217 hce217
                                                          have HR217_0 := Aside0.mk hi217_0
                                                          have HC217_0 := Aside0.mk hl217_0
                                                          clear hi217_0 hl217_0
                                                          replace p217 := eq_true p217
                                                          replace q217 := eq_true q217
                                                          have ea_ := Option.some.inj (hx216_0.symm.trans hx217_0)
                                                          injection ea_ with ea_ en_ ec_
                                                          subst ea_
                                                          subst ec_
                                                          clear en_
                                                          have p218 : 0 ≤ (x15_5 : Int) := of_decide_eq_true (by first | (with_reducible assumption) | assumption)
                                                          have q218 : x15_5 < ((rd_L5 t212 x11_3).length : Int) := of_decide_eq_true (by first | (with_reducible assumption) | assumption)
                                                          obtain ⟨ad218, e218, hx218_0⟩ := Kd.at_int (by repeat (first | (with_reducible exact HR217_0.out) | (with_reducible refine Kd.C_alloc ?_ _) | (with_reducible refine Kd.C_drewN ?_ _) | (with_reducible refine Kd.C_drew ?_) | exact HR217_0.out)) x15_5 p218 q218
                                                          cases e218
                                                          replace p218 := eq_true p218
                                                          replace q218 := eq_true q218
                                                          obtain ⟨Ao85, co85, eo85⟩ := Kd.S_slice HO_5.out
                                                          subst eo85
                                                          have p219 : 0 ≤ ((rd (rd_L5 t212 x11_3) x15_5) : Int) := of_decide_eq_true (by first | (with_reducible assumption) | assumption)
                                                          have q219 : (rd (rd_L5 t212 x11_3) x15_5) < (t182.length : Int) := of_decide_eq_true (by first | (with_reducible assumption) | assumption)
                                                          obtain ⟨ad219, A219_0, c219_0, e219, hx219_0, hl219_0, hi219_0⟩ := at_L7 (Kd.S_reads' HO_5.out).2.2 (rd (rd_L5 t212 x11_3) x15_5) p219 q219
                                                          cases e219
                                                          obtain ⟨ce219, hce219, hMe219, hcc219⟩ := Kd.S_get HO_5.out [] (rd (rd_L5 t212 x11_3) x15_5) p219 (by first | exact q219 | exact of_decide_eq_true (by first | (with_reducible assumption) | assumption) | (have e_ := (Kd.S_reads' HO_5.out).1; omega))
                                                          obtain ⟨ve219_0, rfl, ge219_0⟩ := hMe219
                                                          have hv219_0 := hcc219 0 _ rfl
                                                          rw [Nat.add_zero, show ((Kd.slice 4 Kd.bool)).sz = 1 from rfl, Nat.mul_one] at hv219_0
                                                          replace hv219_0 := Option.some.inj (hv219_0.symm.trans hx219_0)
                                                          rw [hv219_0] at ge219_0
                                                          have HL219_0 := Aside0.mk (show Kd.R Kd.bool 4 _ _ _ _ (rd_L7 t182 (rd (rd_L5 t212 x11_3) x15_5)) from ge219_0)
                                                          clear hv219_0 ge219_0
                                                          clear hcc219 hce219
                                                          have HR219_0 := Aside0.mk hi219_0
                                                          have HC219_0 := Aside0.mk hl219_0
                                                          clear hi219_0 hl219_0
                                                          replace p219 := eq_true p219
                                                          replace q219 := eq_true q219
                                                          have p220 : 0 ≤ (x11_3 : Int) := of_decide_eq_true (by first | (with_reducible assumption) | assumption)
                                                          have q220 : x11_3 < (t212.length : Int) := of_decide_eq_true (by first | (with_reducible assumption) | assumption)
                                                          obtain ⟨ad220, A220_0, c220_0, e220, hx220_0, hl220_0, hi220_0⟩ := at_L5 (Kd.S_reads' HO_10.out).2.2 x11_3 p220 q220
                                                          obtain rfl : ad215 = ad220 := (by injection e220)
                                                          obtain ⟨ce220, hce220, hMe220, hcc220⟩ := Kd.S_get HO_10.out [] x11_3 p220 (by first | exact q220 | exact of_decide_eq_true (by first | (with_reducible assumption) | assumption) | (have e_ := (Kd.S_reads' HO_10.out).1; omega))
                                                          obtain ⟨ve220_0, rfl, ge220_0⟩ := hMe220
                                                          have hv220_0 := hcc220 0 _ rfl
                                                          rw [Nat.add_zero, show ((Kd.slice 3 (Kd.int .i64))).sz = 1 from rfl, Nat.mul_one] at hv220_0
                                                          replace hv220_0 := Option.some.inj (hv220_0.symm.trans hx220_0)
                                                          rw [hv220_0] at ge220_0
                                                          have HL220_0 := Aside0.mk (show Kd.R (Kd.int .i64) 3 _ _ _ _ (rd_L5 t212 x11_3) from ge220_0)
                                                          clear hv220_0 ge220_0
                                                          clear hcc220 hce220
                                                          have HR220_0 := Aside0.mk hi220_0
                                                          have HC220_0 := Aside0.mk hl220_0
                                                          clear hi220_0 hl220_0
                                                          replace p220 := eq_true p220
                                                          replace q220 := eq_true q220
                                                          have ea_ := Option.some.inj (hx216_0.symm.trans hx220_0)
                                                          injection ea_ with ea_ en_ ec_
                                                          subst ea_
                                                          subst ec_
                                                          clear en_
                                                          have p221 : 0 ≤ (x13_4 : Int) := of_decide_eq_true (by first | (with_reducible assumption) | assumption)
                                                          have q221 : x13_4 < ((rd_L5 t212 x11_3).length : Int) := of_decide_eq_true (by first | (with_reducible assumption) | assumption)
                                                          obtain ⟨ad221, e221, hx221_0⟩ := Kd.at_int (by repeat (first | (with_reducible exact HR220_0.out) | (with_reducible refine Kd.C_alloc ?_ _) | (with_reducible refine Kd.C_drewN ?_ _) | (with_reducible refine Kd.C_drew ?_) | exact HR220_0.out)) x13_4 p221 q221
                                                          cases e221
                                                          replace p221 := eq_true p221
                                                          replace q221 := eq_true q221
                                                          have p222 : 0 ≤ ((rd (rd_L5 t212 x11_3) x13_4) : Int) := of_decide_eq_true (by first | (with_reducible assumption) | assumption)
                                                          have q222 : (rd (rd_L5 t212 x11_3) x13_4) < ((rd_L7 t182 (rd (rd_L5 t212 x11_3) x15_5)).length : Int) := of_decide_eq_true (by first | (with_reducible assumption) | assumption)
                                                          obtain ⟨ad222, e222, hx222_0⟩ := Kd.at_bool (by repeat (first | (with_reducible exact HR219_0.out) | (with_reducible refine Kd.C_alloc ?_ _) | (with_reducible refine Kd.C_drewN ?_ _) | (with_reducible refine Kd.C_drew ?_) | exact HR219_0.out)) (rd (rd_L5 t212 x11_3) x13_4) p222 q222
                                                          cases e222
                                                          replace p222 := eq_true p222
                                                          replace q222 := eq_true q222
                                                          go_wp2
                                                          repeat (go_quiet (fail); try go_wp2)
                                                          go_roundg k5
                                                          case measure => have := HJ3.out; have := HK2.out; have := HK3.out; have := HK4.out; have := HK5.out; omega
                                                          case rel => exact ⟨(rdOf false (rd_L7 t182 (rd (rd_L5 t212 x11_3) x15_5)) (rd (rd_L5 t212 x11_3) x13_4)), (wrap64 (x15_5 + 1)), (by first | rfl | (simp; done) | (simp [*]; done)), (by first | rfl | (simp; done) | (simp [*]; done)), H', ⟨by have := HJ3.out; have := HK2.out; have := HK3.out; have := HK4.out; have := HK5.out; omega⟩, ⟨by (with_reducible repeat (first | apply Kd.S_alloc | apply Kd.S_drewN | apply Kd.S_drew)); exact HO_5.out⟩, ⟨by (with_reducible repeat (first | apply Kd.S_alloc | apply Kd.S_drewN | apply Kd.S_drew)); exact HO_10.out⟩, ⟨by repeat (first | (with_reducible exact HR215_0.out) | (with_reducible refine Kd.C_alloc ?_ _) | (with_reducible refine Kd.C_drewN ?_ _) | (with_reducible refine Kd.C_drew ?_) | exact HR215_0.out)⟩, ⟨by repeat (first | (with_reducible first | exact HB.out | apply below_alloc | apply pw_below_drewN | apply below_drew1) | exact HB.out)⟩⟩
                                                        · rw [if_neg c84] at H
                                                          exact absurd H (by simp)
                                                      · rw [if_neg c83] at H
                                                        exact absurd H (by simp)
                                                    · rw [if_neg c82] at H
                                                      exact absurd H (by simp)
                                                  · rw [if_neg c81] at H
                                                    exact absurd H (by simp)
                                                · rw [if_neg c80] at H
                                                  exact absurd H (by simp)
                                              · rw [if_neg c79] at H
                                                exact absurd H (by simp)
                                            · rw [if_neg c78] at H
                                              exact absurd H (by simp)
                                          · replace c77 := Bool.eq_false_iff.mpr c77
                                            subst c77
                                            have H1 : (palinglaw14_GraphAbove.l5 k5 t182 t212 x11_3 x12_4 x13_4 false (wrap64 (x15_5 + 1))) = some r := by rw [if_neg (show ¬ (false = true) by decide)] at H; exact H
                                            clear H
                                            have H := H1
                                            clear H1
                                            have H' := Aside0.mk H
                                            clear H
                                            have p216 : 0 ≤ (x11_3 : Int) := of_decide_eq_true (by first | (with_reducible assumption) | assumption)
                                            have q216 : x11_3 < (t212.length : Int) := of_decide_eq_true (by first | (with_reducible assumption) | assumption)
                                            obtain ⟨ad216, A216_0, c216_0, e216, hx216_0, hl216_0, hi216_0⟩ := at_L5 (Kd.S_reads' HO_10.out).2.2 x11_3 p216 q216
                                            obtain rfl : ad215 = ad216 := (by injection e216)
                                            obtain ⟨ce216, hce216, hMe216, hcc216⟩ := Kd.S_get HO_10.out [] x11_3 p216 (by first | exact q216 | exact of_decide_eq_true (by first | (with_reducible assumption) | assumption) | (have e_ := (Kd.S_reads' HO_10.out).1; omega))
                                            obtain ⟨ve216_0, rfl, ge216_0⟩ := hMe216
                                            have hv216_0 := hcc216 0 _ rfl
                                            rw [Nat.add_zero, show ((Kd.slice 3 (Kd.int .i64))).sz = 1 from rfl, Nat.mul_one] at hv216_0
                                            replace hv216_0 := Option.some.inj (hv216_0.symm.trans hx216_0)
                                            rw [hv216_0] at ge216_0
                                            have HL216_0 := Aside0.mk (show Kd.R (Kd.int .i64) 3 _ _ _ _ (rd_L5 t212 x11_3) from ge216_0)
                                            clear hv216_0 ge216_0
                                            clear hcc216 hce216
                                            have HR216_0 := Aside0.mk hi216_0
                                            have HC216_0 := Aside0.mk hl216_0
                                            clear hi216_0 hl216_0
                                            replace p216 := eq_true p216
                                            replace q216 := eq_true q216
                                            go_wp2
                                            repeat (go_quiet (fail); try go_wp2)
                                            go_roundg k5
                                            case measure => have := HJ3.out; have := HK2.out; have := HK3.out; have := HK4.out; have := HK5.out; omega
                                            case rel => exact ⟨(false), (wrap64 (x15_5 + 1)), (by first | rfl | (simp; done) | (simp [*]; done)), (by first | rfl | (simp; done) | (simp [*]; done)), H', ⟨by have := HJ3.out; have := HK2.out; have := HK3.out; have := HK4.out; have := HK5.out; omega⟩, ⟨by (with_reducible repeat (first | apply Kd.S_alloc | apply Kd.S_drewN | apply Kd.S_drew)); exact HO_5.out⟩, ⟨by (with_reducible repeat (first | apply Kd.S_alloc | apply Kd.S_drewN | apply Kd.S_drew)); exact HO_10.out⟩, ⟨by repeat (first | (with_reducible exact HR215_0.out) | (with_reducible refine Kd.C_alloc ?_ _) | (with_reducible refine Kd.C_drewN ?_ _) | (with_reducible refine Kd.C_drew ?_) | exact HR215_0.out)⟩, ⟨by repeat (first | (with_reducible first | exact HB.out | apply below_alloc | apply pw_below_drewN | apply below_drew1) | exact HB.out)⟩⟩
                                        · rw [if_neg c76] at H
                                          have c76b0 : decide (x15_5 < ((rd_L5 t212 x11_3).length : Int)) = false := decide_eq_false c76
                                          clear c76
                                          by_cases c86 : x14_5 = true
                                          · subst c86
                                            have H1 : (palinglaw14_GraphAbove.l4 k5 t182 t212 x11_3 (wrap64 (x12_4 + 1)) (wrap64 (x13_4 + 1))) = some r := by rw [if_pos rfl] at H; exact H
                                            clear H
                                            have H := H1
                                            clear H1
                                            have H' := Aside0.mk H
                                            clear H
                                            have p216 : 0 ≤ (x11_3 : Int) := of_decide_eq_true (by first | (with_reducible assumption) | assumption)
                                            have q216 : x11_3 < (t212.length : Int) := of_decide_eq_true (by first | (with_reducible assumption) | assumption)
                                            obtain ⟨ad216, A216_0, c216_0, e216, hx216_0, hl216_0, hi216_0⟩ := at_L5 (Kd.S_reads' HO_10.out).2.2 x11_3 p216 q216
                                            obtain rfl : ad215 = ad216 := (by injection e216)
                                            obtain ⟨ce216, hce216, hMe216, hcc216⟩ := Kd.S_get HO_10.out [] x11_3 p216 (by first | exact q216 | exact of_decide_eq_true (by first | (with_reducible assumption) | assumption) | (have e_ := (Kd.S_reads' HO_10.out).1; omega))
                                            obtain ⟨ve216_0, rfl, ge216_0⟩ := hMe216
                                            have hv216_0 := hcc216 0 _ rfl
                                            rw [Nat.add_zero, show ((Kd.slice 3 (Kd.int .i64))).sz = 1 from rfl, Nat.mul_one] at hv216_0
                                            replace hv216_0 := Option.some.inj (hv216_0.symm.trans hx216_0)
                                            rw [hv216_0] at ge216_0
                                            have HL216_0 := Aside0.mk (show Kd.R (Kd.int .i64) 3 _ _ _ _ (rd_L5 t212 x11_3) from ge216_0)
                                            clear hv216_0 ge216_0
                                            clear hcc216 hce216
                                            have HR216_0 := Aside0.mk hi216_0
                                            have HC216_0 := Aside0.mk hl216_0
                                            clear hi216_0 hl216_0
                                            replace p216 := eq_true p216
                                            replace q216 := eq_true q216
                                            go_wp2
                                            repeat (go_quiet (fail); try go_wp2)
                                            go_roundg k5
                                            case measure => have := HJ3.out; have := HK2.out; have := HK3.out; have := HK4.out; have := HK5.out; omega
                                            case rel => exact ⟨(wrap64 (x12_4 + 1)), (wrap64 (x13_4 + 1)), (by first | rfl | (simp; done) | (simp [*]; done)), (by first | rfl | (simp; done) | (simp [*]; done)), H', ⟨by have := HJ3.out; have := HK2.out; have := HK3.out; have := HK4.out; have := HK5.out; omega⟩, ⟨by (with_reducible repeat (first | apply Kd.S_alloc | apply Kd.S_drewN | apply Kd.S_drew)); exact HO_5.out⟩, ⟨by (with_reducible repeat (first | apply Kd.S_alloc | apply Kd.S_drewN | apply Kd.S_drew)); exact HO_10.out⟩, ⟨by repeat (first | (with_reducible first | exact HB.out | apply below_alloc | apply pw_below_drewN | apply below_drew1) | exact HB.out)⟩⟩
                                          · replace c86 := Bool.eq_false_iff.mpr c86
                                            subst c86
                                            have H1 : (palinglaw14_GraphAbove.l4 k5 t182 t212 x11_3 x12_4 (wrap64 (x13_4 + 1))) = some r := by rw [if_neg (show ¬ (false = true) by decide)] at H; exact H
                                            clear H
                                            have H := H1
                                            clear H1
                                            have H' := Aside0.mk H
                                            clear H
                                            have p216 : 0 ≤ (x11_3 : Int) := of_decide_eq_true (by first | (with_reducible assumption) | assumption)
                                            have q216 : x11_3 < (t212.length : Int) := of_decide_eq_true (by first | (with_reducible assumption) | assumption)
                                            obtain ⟨ad216, A216_0, c216_0, e216, hx216_0, hl216_0, hi216_0⟩ := at_L5 (Kd.S_reads' HO_10.out).2.2 x11_3 p216 q216
                                            obtain rfl : ad215 = ad216 := (by injection e216)
                                            obtain ⟨ce216, hce216, hMe216, hcc216⟩ := Kd.S_get HO_10.out [] x11_3 p216 (by first | exact q216 | exact of_decide_eq_true (by first | (with_reducible assumption) | assumption) | (have e_ := (Kd.S_reads' HO_10.out).1; omega))
                                            obtain ⟨ve216_0, rfl, ge216_0⟩ := hMe216
                                            have hv216_0 := hcc216 0 _ rfl
                                            rw [Nat.add_zero, show ((Kd.slice 3 (Kd.int .i64))).sz = 1 from rfl, Nat.mul_one] at hv216_0
                                            replace hv216_0 := Option.some.inj (hv216_0.symm.trans hx216_0)
                                            rw [hv216_0] at ge216_0
                                            have HL216_0 := Aside0.mk (show Kd.R (Kd.int .i64) 3 _ _ _ _ (rd_L5 t212 x11_3) from ge216_0)
                                            clear hv216_0 ge216_0
                                            clear hcc216 hce216
                                            have HR216_0 := Aside0.mk hi216_0
                                            have HC216_0 := Aside0.mk hl216_0
                                            clear hi216_0 hl216_0
                                            replace p216 := eq_true p216
                                            replace q216 := eq_true q216
                                            go_wp2
                                            repeat (go_quiet (fail); try go_wp2)
                                            go_roundg k5
                                            case measure => have := HJ3.out; have := HK2.out; have := HK3.out; have := HK4.out; have := HK5.out; omega
                                            case rel => exact ⟨(x12_4), (wrap64 (x13_4 + 1)), (by first | rfl | (simp; done) | (simp [*]; done)), (by first | rfl | (simp; done) | (simp [*]; done)), H', ⟨by have := HJ3.out; have := HK2.out; have := HK3.out; have := HK4.out; have := HK5.out; omega⟩, ⟨by (with_reducible repeat (first | apply Kd.S_alloc | apply Kd.S_drewN | apply Kd.S_drew)); exact HO_5.out⟩, ⟨by (with_reducible repeat (first | apply Kd.S_alloc | apply Kd.S_drewN | apply Kd.S_drew)); exact HO_10.out⟩, ⟨by repeat (first | (with_reducible first | exact HB.out | apply below_alloc | apply pw_below_drewN | apply below_drew1) | exact HB.out)⟩⟩
                                      · rw [if_neg c75] at H
                                        exact absurd H (by simp)
                                    · rw [if_neg c74] at H
                                      exact absurd H (by simp)
                              · rw [if_neg c73] at H
                                have c73b0 : decide (x13_4 < ((rd_L5 t212 x11_3).length : Int)) = false := decide_eq_false c73
                                clear c73
                                by_cases c87 : x12_4 < 1
                                · rw [if_pos c87] at H
                                  have c87b0 : decide (x12_4 < 1) = true := decide_eq_true c87
                                  clear c87
                                  obtain rfl := Option.some.inj H
                                  have p215 : 0 ≤ (x11_3 : Int) := of_decide_eq_true (by first | (with_reducible assumption) | assumption)
                                  have q215 : x11_3 < (t212.length : Int) := of_decide_eq_true (by first | (with_reducible assumption) | assumption)
                                  obtain ⟨ad215, A215_0, c215_0, e215, hx215_0, hl215_0, hi215_0⟩ := at_L5 (Kd.S_reads' HO_10.out).2.2 x11_3 p215 q215
                                  cases e215
                                  obtain ⟨ce215, hce215, hMe215, hcc215⟩ := Kd.S_get HO_10.out [] x11_3 p215 (by first | exact q215 | exact of_decide_eq_true (by first | (with_reducible assumption) | assumption) | (have e_ := (Kd.S_reads' HO_10.out).1; omega))
                                  obtain ⟨ve215_0, rfl, ge215_0⟩ := hMe215
                                  have hv215_0 := hcc215 0 _ rfl
                                  rw [Nat.add_zero, show ((Kd.slice 3 (Kd.int .i64))).sz = 1 from rfl, Nat.mul_one] at hv215_0
                                  replace hv215_0 := Option.some.inj (hv215_0.symm.trans hx215_0)
                                  rw [hv215_0] at ge215_0
                                  have HL215_0 := Aside0.mk (show Kd.R (Kd.int .i64) 3 _ _ _ _ (rd_L5 t212 x11_3) from ge215_0)
                                  clear hv215_0 ge215_0
                                  clear hcc215 hce215
                                  have HR215_0 := Aside0.mk hi215_0
                                  have HC215_0 := Aside0.mk hl215_0
                                  clear hi215_0 hl215_0
                                  replace p215 := eq_true p215
                                  replace q215 := eq_true q215
                                  go_wp2
                                  repeat (go_quiet (fail); try go_wp2)
                                  go_ret
                                  exact ⟨by first | rfl | (simp [errW_none, errW_some] <;> rfl) | (simp [*, errW_none, errW_some] <;> rfl), by repeat (first | (with_reducible first | exact HB.out | apply below_alloc | apply pw_below_drewN | apply below_drew1) | exact HB.out)⟩
                                · rw [if_neg c87] at H
                                  have c87b0 : decide (x12_4 < 1) = false := decide_eq_false c87
                                  clear c87
                                  have H' := Aside0.mk H
                                  clear H
                                  have p215 : 0 ≤ (x11_3 : Int) := of_decide_eq_true (by first | (with_reducible assumption) | assumption)
                                  have q215 : x11_3 < (t212.length : Int) := of_decide_eq_true (by first | (with_reducible assumption) | assumption)
                                  obtain ⟨ad215, A215_0, c215_0, e215, hx215_0, hl215_0, hi215_0⟩ := at_L5 (Kd.S_reads' HO_10.out).2.2 x11_3 p215 q215
                                  cases e215
                                  obtain ⟨ce215, hce215, hMe215, hcc215⟩ := Kd.S_get HO_10.out [] x11_3 p215 (by first | exact q215 | exact of_decide_eq_true (by first | (with_reducible assumption) | assumption) | (have e_ := (Kd.S_reads' HO_10.out).1; omega))
                                  obtain ⟨ve215_0, rfl, ge215_0⟩ := hMe215
                                  have hv215_0 := hcc215 0 _ rfl
                                  rw [Nat.add_zero, show ((Kd.slice 3 (Kd.int .i64))).sz = 1 from rfl, Nat.mul_one] at hv215_0
                                  replace hv215_0 := Option.some.inj (hv215_0.symm.trans hx215_0)
                                  rw [hv215_0] at ge215_0
                                  have HL215_0 := Aside0.mk (show Kd.R (Kd.int .i64) 3 _ _ _ _ (rd_L5 t212 x11_3) from ge215_0)
                                  clear hv215_0 ge215_0
                                  clear hcc215 hce215
                                  have HR215_0 := Aside0.mk hi215_0
                                  have HC215_0 := Aside0.mk hl215_0
                                  clear hi215_0 hl215_0
                                  replace p215 := eq_true p215
                                  replace q215 := eq_true q215
                                  go_wp2
                                  repeat (go_quiet (fail); try go_wp2)
                                  go_roundg k4
                                  case measure => have := HJ3.out; have := HK2.out; have := HK3.out; have := HK4.out; omega
                                  case rel => exact ⟨(wrap64 (x11_3 + 1)), (by first | rfl | (simp; done) | (simp [*]; done)), H', ⟨by have := HJ3.out; have := HK2.out; have := HK3.out; have := HK4.out; omega⟩, ⟨by (with_reducible repeat (first | apply Kd.S_alloc | apply Kd.S_drewN | apply Kd.S_drew)); exact HO_5.out⟩, ⟨by (with_reducible repeat (first | apply Kd.S_alloc | apply Kd.S_drewN | apply Kd.S_drew)); exact HO_10.out⟩, ⟨by repeat (first | (with_reducible first | exact HB.out | apply below_alloc | apply pw_below_drewN | apply below_drew1) | exact HB.out)⟩⟩
                            · rw [if_neg c72] at H
                              exact absurd H (by simp)
                          · rw [if_neg c71] at H
                            exact absurd H (by simp)
                    · rw [if_neg c69] at H
                      have c69b0 : decide (x11_3 < (t212.length : Int)) = false := decide_eq_false c69
                      clear c69
                      obtain rfl := Option.some.inj H
                      obtain ⟨Ao88, co88, eo88⟩ := Kd.S_slice HO_10.out
                      subst eo88
                      go_wp2
                      repeat (go_quiet (fail); try go_wp2)
                      go_ret
                      exact ⟨by first | rfl | (simp [errW_none, errW_some] <;> rfl) | (simp [*, errW_none, errW_some] <;> rfl), by repeat (first | (with_reducible first | exact HB.out | apply below_alloc | apply pw_below_drewN | apply below_drew1) | exact HB.out)⟩
  · replace c3 := Bool.eq_false_iff.mpr c3
    subst c3
    have H1 : (none) = some r := by rw [if_neg (show ¬ (false = true) by decide)] at H; exact H
    clear H
    have H := H1
    clear H1
    exact absurd H (by simp)
end Go.Proofs.YtoncneglplglhaaDoor.PGraphAbove
