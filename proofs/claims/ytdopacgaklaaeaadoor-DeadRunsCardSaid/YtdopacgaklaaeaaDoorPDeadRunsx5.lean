-- Written by print2.py over the kit's printer. Not trusted: Lean checks it.
import Derived.Test.YtdopacgaklaaeaaDoorPDeadRunshqq
import Derived.Test.YtdopacgaklaaeaaDoorPDeadRunsx0
namespace Go.Proofs.YtdopacgaklaaeaaDoor.PDeadRuns
open Go.RowKit Go.Proofs.YtdopacgaklaaeaaDoorW.PrintWords Go.Proofs.YtdopacgaklaaeaaDoorW.PrintLast Go.Proofs.YtdopacgaklaaeaaDoorW.PrintMore
attribute [local go_sem] max2_int min2_int max_two min_two max_three min_three max_four min_four   -- for this text's walks alone
set_option linter.unusedVariables false
set_option linter.unusedSimpArgs false

/-! ### dead_count: function 34 -/
def dead_count.l0 : Nat → List Bool → Bool → Int → Int → Int → Option (Int)
  | 0, _, _, _, _, _ => none
  | k + 1, x0, x2, x7, x12, x13 => if x13 < x12 then (if 0 ≤ x13 then (if x13 < (x0.length : Int) then (if ((rdOf false x0 x13) == x2) = true then (dead_count.l0 k x0 x2 (wrap64 (x7 + 1)) x12 (wrap64 (x13 + 1))) else (dead_count.l0 k x0 x2 x7 x12 (wrap64 (x13 + 1)))) else (none)) else (none)) else (some x7)
def dead_count.f (k : Nat) (l0 : List Bool) (a1 : Int) (a2 : Bool) : Option (Int) := dead_count.l0 k l0 a2 0 (mn a1 (l0.length : Int)) 0
theorem dead_count.mono_l : ∀ k, (∀ y0 y1 y2 y3 y4, LeO (dead_count.l0 k y0 y1 y2 y3 y4) (dead_count.l0 (k + 1) y0 y1 y2 y3 y4))
  | 0 => fun _ _ _ _ _ r h => by simp [dead_count.l0] at h
  | k + 1 => by
    have ih0 := dead_count.mono_l k
    intros <;> unfold dead_count.l0 <;> repeat' (first | (with_reducible first | exact ih0 _ _ _ _ _ | exact LeO.refl _ | exact LeO.none _ | refine LeO.ite ?_ ?_ | refine LeO.bind ?_ (fun _ => ?_)) | exact ih0 _ _ _ _ _ | exact LeO.none _ | refine LeO.ite ?_ ?_ | refine LeO.bind ?_ (fun _ => ?_))
theorem dead_count.mono : ∀ a0 a1 a2 k, LeO (dead_count.f k a0 a1 a2) (dead_count.f (k + 1) a0 a1 a2) := by
 intro a0 a1 a2 k
 have ih0 := dead_count.mono_l k
 unfold dead_count.f
 repeat' (first | (with_reducible first | exact ih0 _ _ _ _ _ | exact LeO.refl _ | exact LeO.none _ | refine LeO.ite ?_ ?_ | refine LeO.bind ?_ (fun _ => ?_)) | exact ih0 _ _ _ _ _ | exact LeO.none _ | refine LeO.ite ?_ ?_ | refine LeO.bind ?_ (fun _ => ?_))
set_option maxHeartbeats 8000000 in
set_option maxRecDepth 100000 in
theorem dead_count.calls (k : Nat) (A0 : Option Addr) (c0 : Nat) (l0 : List Bool) (a1 : Int) (a2 : Bool) (r : Int) (w : World) (hr0 : Kd.C Kd.bool w A0 l0.length l0) (hc0 : l0.length ≤ c0) (h : dead_count.f k l0 a1 a2 = some r) :
    Calls Tryd.prog 34 #[.slice A0 l0.length c0, .int .i64 a1, .bool a2] w fun e w' => e = .returned (.int .i64 r) ∧ Below w.heap.size w w' := by
 have HR0 := Aside0.mk hr0
 have HC0 := Aside0.mk hc0
 clear hr0 hc0
 have HB := Aside0.mk (Below.refl w.heap.size w)
 have H : (dead_count.l0 k l0 a2 0 (mn a1 (l0.length : Int)) 0) = some r := h
 clear h
 obtain ⟨ji4, hji4⟩ : ∃ j_ : Int, (mn a1 (l0.length : Int)) = j_ := ⟨_, rfl⟩
 replace H : (dead_count.l0 k l0 a2 0 ji4 0) = some r := by first | (rw [hji4] at H; exact H) | (simp only [hji4] at H ⊢; exact H)
 have hji4_ : (if (l0.length : Int) < a1 then (l0.length : Int) else a1) = ji4 := hji4
 have H' := Aside0.mk H
 clear H
 go_enter Tryd.func34, Tryd.ntmps34
 go_wp2
 go_loopg [7, 13] k (fun kq v7 v13 w' => ∃ (x7_1 : Int) (x13_1 : Int), v7 = .int .i64 x7_1 ∧ v13 = .int .i64 x13_1 ∧ Aside0 (dead_count.l0 kq l0 a2 x7_1 ji4 x13_1 = some r) ∧ Aside0 (kq ≤ k) ∧ Aside0 (Below w.heap.size w w'))
 case atStart => exact ⟨(0), (0), aq2, aq2, H', ⟨Nat.le_refl _⟩, ⟨aq0⟩⟩
 case round =>
  clear H'
  obtain ⟨x7_1, x13_1, rfl, rfl, HA, HK1, HB⟩ := hrel
  cases gk with
  | zero => exact absurd HA.out (by simp [dead_count.l0])
  | succ k1 =>
   have H := HA.out
   clear HA
   simp only [dead_count.l0] at H
   by_cases c5 : x13_1 < ji4
   rotate_left
   ·rw [if_neg c5] at H
    have c5b0 : decide (x13_1 < ji4) = false := decide_eq_false c5
    clear c5
    obtain rfl := Option.some.inj H
    go_wp2
    go_ret
    exact ⟨by first | rfl | (simp [errW_none, errW_some] <;> rfl) | (simp only [← hji4]; first | rfl | (simp [errW_none, errW_some] <;> rfl)) | (simp [*, errW_none, errW_some] <;> rfl), aq0⟩
   rw [if_pos c5] at H
   have c5b0 : decide (x13_1 < ji4) = true := decide_eq_true c5
   clear c5
   by_cases c6 : 0 ≤ x13_1
   rotate_left
   ·rw [if_neg c6] at H
    exact absurd H (by simp)
   rw [if_pos c6] at H
   have c6b0 : decide (0 ≤ x13_1) = true := decide_eq_true c6
   clear c6
   by_cases c7 : x13_1 < (l0.length : Int)
   rotate_left
   ·rw [if_neg c7] at H
    exact absurd H (by simp)
   rw [if_pos c7] at H
   have c7b0 : decide (x13_1 < (l0.length : Int)) = true := decide_eq_true c7
   clear c7
   by_cases c8 : ((rdOf false l0 x13_1) == a2) = true
   ·rw [if_pos c8] at H
    have c8b0 : ((rdOf false l0 x13_1) == a2) = true := c8
    (try (have c8b1 : decide ((rdOf false l0 x13_1) = a2) = true := by simpa using c8))
    (try (have c8b2 : ((rdOf false l0 x13_1) == a2) = true := by simpa using c8))
    clear c8
    have H' := Aside0.mk H
    clear H
    have p107 : 0 ≤ (x13_1 : Int) := of_decide_eq_true aq5
    have q107 : x13_1 < (l0.length : Int) := of_decide_eq_true aq5
    obtain ⟨ad107, e107, hx107_0⟩ := Kd.at_bool HR0.out x13_1 p107 q107
    cases e107
    replace hx107_0 := (HB.out.cell (World.block_lt_of_cell? w _ hx107_0)).trans hx107_0
    replace p107 := eq_true p107
    replace q107 := eq_true q107
    go_wp2
    go_roundg k1
    case measure => have := HK1.out; omega
    case rel => exact ⟨(wrap64 (x7_1 + 1)), (wrap64 (x13_1 + 1)), aq2, aq2, H', ⟨aq21⟩, ⟨aq0⟩⟩
   rw [if_neg c8] at H
   have c8b0 : ((rdOf false l0 x13_1) == a2) = false := by simpa using c8
   (try (have c8b1 : decide ((rdOf false l0 x13_1) = a2) = false := by simpa using c8))
   (try (have c8b2 : ((rdOf false l0 x13_1) == a2) = false := by simpa using c8))
   (try (have c8b3 : ¬ ((rdOf false l0 x13_1) = a2) := by simpa using c8))
   clear c8
   have H' := Aside0.mk H
   clear H
   have p107 : 0 ≤ (x13_1 : Int) := of_decide_eq_true aq5
   have q107 : x13_1 < (l0.length : Int) := of_decide_eq_true aq5
   obtain ⟨ad107, e107, hx107_0⟩ := Kd.at_bool HR0.out x13_1 p107 q107
   cases e107
   replace hx107_0 := (HB.out.cell (World.block_lt_of_cell? w _ hx107_0)).trans hx107_0
   replace p107 := eq_true p107
   replace q107 := eq_true q107
   go_wp2
   go_roundg k1
   case measure => have := HK1.out; omega
   case rel => exact ⟨(x7_1), (wrap64 (x13_1 + 1)), aq2, aq2, H', ⟨aq21⟩, ⟨aq0⟩⟩
/-! ### dead_goes: function 59 -/
def dead_goes.f (a0_0 : Int) (a0_1 : Int) (a0_2 : Int) (a0_3 : Int) (a0_4 : Int) (a0_5 : Int) (a0_6 : Int) : Option (Bool) := if a0_0 = 6 then (some true) else (some (a0_0 == 7))
set_option maxHeartbeats 8000000 in
set_option maxRecDepth 100000 in
theorem dead_goes.calls (a0_0 : Int) (a0_1 : Int) (a0_2 : Int) (a0_3 : Int) (a0_4 : Int) (a0_5 : Int) (a0_6 : Int) (r : Bool) (w : World) (h : dead_goes.f a0_0 a0_1 a0_2 a0_3 a0_4 a0_5 a0_6 = some r) :
    Calls Tryd.prog 59 #[.agg #[.int .i64 a0_0, .int .i64 a0_1, .int .i64 a0_2, .int .i64 a0_3, .int .i64 a0_4, .int .i64 a0_5, .int .i64 a0_6]] w fun e w' => e = .returned (.bool r) ∧ Below w.heap.size w w' := by
 have hu28 := Tryd.underlying28
 have HB := Aside0.mk (Below.refl w.heap.size w)
 have H : (if a0_0 = 6 then (some true) else (some (a0_0 == 7))) = some r := h
 clear h
 by_cases c2 : a0_0 = 6
 rotate_left
 ·rw [if_neg c2] at H
  have c2b0 : (a0_0 == 6) = false := beq_eq_false_iff_ne.mpr c2
  have c2b1 : (a0_0 != 6) = true := bne_iff_ne.mpr c2
  obtain rfl := Option.some.inj H
  go_enter Tryd.func59, Tryd.ntmps59
  go_wp2_with (first | ((with_reducible refine gate_dst (N := 1) rfl ?_); refine box_event ?hg (N := 1) ?hd (cs := #[.int .i64 a0_0, .int .i64 a0_1, .int .i64 a0_2, .int .i64 a0_3, .int .i64 a0_4, .int .i64 a0_5, .int .i64 a0_6]) (t := 28) ?hr ?_; (case hd => rfl); (case hg => rfl); (case hr => first | (go_simp; done) | (go_simp; rfl)); intro gb0 hg w5 hbox hb; have BK0 := Aside0.mk (hbox); have GW0 := Aside0.mk ((by rw [hg]; exact (below_size aq0) : w.heap.size ≤ gb0)); have GE0 := Aside0.mk ((by rw [hg]; exact (below_size aq0) : w.heap.size ≤ gb0)); replace HB := Aside0.mk (below_step aq0 hb); clear hb hbox hg; obtain ⟨hcz6_0, hcz6_1, hcz6_2, hcz6_3, hcz6_4, hcz6_5, hcz6_6, hfz6_0, hfz6_1, hfz6_2, hfz6_3, hfz6_4, hfz6_5, hfz6_6⟩ := czf7 BK0.out))
  go_ret
  exact ⟨aq7, aq6⟩
 rw [if_pos c2] at H
 have c2b0 : (a0_0 == 6) = true := beq_iff_eq.mpr c2
 have c2b1 : (a0_0 != 6) = false := bne_eq_false_iff_eq.mpr c2
 clear c2
 obtain rfl := Option.some.inj H
 go_enter Tryd.func59, Tryd.ntmps59
 go_wp2_with (first | ((with_reducible refine gate_dst (N := 1) rfl ?_); refine box_event ?hg (N := 1) ?hd (cs := #[.int .i64 a0_0, .int .i64 a0_1, .int .i64 a0_2, .int .i64 a0_3, .int .i64 a0_4, .int .i64 a0_5, .int .i64 a0_6]) (t := 28) ?hr ?_; (case hd => rfl); (case hg => rfl); (case hr => first | (go_simp; done) | (go_simp; rfl)); intro gb0 hg w3 hbox hb; have BK0 := Aside0.mk (hbox); have GW0 := Aside0.mk ((by rw [hg]; exact (below_size aq0) : w.heap.size ≤ gb0)); have GE0 := Aside0.mk ((by rw [hg]; exact (below_size aq0) : w.heap.size ≤ gb0)); replace HB := Aside0.mk (below_step aq0 hb); clear hb hbox hg; obtain ⟨hcz4_0, hcz4_1, hcz4_2, hcz4_3, hcz4_4, hcz4_5, hcz4_6, hfz4_0, hfz4_1, hfz4_2, hfz4_3, hfz4_4, hfz4_5, hfz4_6⟩ := czf7 BK0.out))
 go_ret
 exact ⟨aq7, aq6⟩
end Go.Proofs.YtdopacgaklaaeaaDoor.PDeadRuns
