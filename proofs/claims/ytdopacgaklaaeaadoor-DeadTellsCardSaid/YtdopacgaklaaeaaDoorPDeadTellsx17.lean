-- Written by print2.py over the kit's printer. Not trusted: Lean checks it.
import Derived.Test.YtdopacgaklaaeaaDoorPDeadTellshqq
import Derived.Test.YtdopacgaklaaeaaDoorPDeadTellsx0
import Derived.Test.YtdopacgaklaaeaaDoorPDeadTellshdrneed
namespace Go.Proofs.YtdopacgaklaaeaaDoor.PDeadTells
open Go.RowKit Go.Proofs.YtdopacgaklaaeaaDoorW.PrintWords Go.Proofs.YtdopacgaklaaeaaDoorW.PrintLast Go.Proofs.YtdopacgaklaaeaaDoorW.PrintMore
attribute [local go_sem] max2_int min2_int max_two min_two max_three min_three max_four min_four   -- for this text's walks alone
set_option linter.unusedVariables false
set_option linter.unusedSimpArgs false

/-! ### palingref18_goes: function 35 -/
def palingref18_goes.f (a0_0 : Int) (a0_1 : Int) (a0_2 : Int) (a0_3 : Int) (a0_4 : Int) (a0_5 : Int) (a0_6 : Int) : Option (Bool) := if a0_0 = 6 then (some true) else (some (a0_0 == 7))
set_option maxHeartbeats 8000000 in
set_option maxRecDepth 100000 in
theorem palingref18_goes.calls (a0_0 : Int) (a0_1 : Int) (a0_2 : Int) (a0_3 : Int) (a0_4 : Int) (a0_5 : Int) (a0_6 : Int) (r : Bool) (w : World) (h : palingref18_goes.f a0_0 a0_1 a0_2 a0_3 a0_4 a0_5 a0_6 = some r) :
    Calls Tryd.prog 35 #[.agg #[.int .i64 a0_0, .int .i64 a0_1, .int .i64 a0_2, .int .i64 a0_3, .int .i64 a0_4, .int .i64 a0_5, .int .i64 a0_6]] w fun e w' => e = .returned (.bool r) ∧ Below w.heap.size w w' := by
 have hu28 := Tryd.underlying28
 have HB := Aside0.mk (Below.refl w.heap.size w)
 have H : (if a0_0 = 6 then (some true) else (some (a0_0 == 7))) = some r := h
 clear h
 by_cases c2 : a0_0 = 6
 rotate_left
 ·rw [if_neg c2] at H
  have c2b0 : (a0_0 == 6) = false := beq_eq_false_iff_ne.mpr c2
  have c2b1 : (a0_0 != 6) = true := bne_iff_ne.mpr c2
  obtain rfl := Option.some.inj H
  go_enter Tryd.func35, Tryd.ntmps35
  go_wp2_with (first | ((with_reducible refine gate_dst (N := 1) rfl ?_); refine box_event ?hg (N := 1) ?hd (cs := #[.int .i64 a0_0, .int .i64 a0_1, .int .i64 a0_2, .int .i64 a0_3, .int .i64 a0_4, .int .i64 a0_5, .int .i64 a0_6]) (t := 28) ?hr ?_; (case hd => rfl); (case hg => rfl); (case hr => first | (go_simp; done) | (go_simp; rfl)); intro gb0 hg w5 hbox hb; have BK0 := Aside0.mk (hbox); have GW0 := Aside0.mk ((by rw [hg]; exact (below_size aq0) : w.heap.size ≤ gb0)); have GE0 := Aside0.mk ((by rw [hg]; exact (below_size aq0) : w.heap.size ≤ gb0)); replace HB := Aside0.mk (below_step aq0 hb); clear hb hbox hg; obtain ⟨hcz6_0, hcz6_1, hcz6_2, hcz6_3, hcz6_4, hcz6_5, hcz6_6, hfz6_0, hfz6_1, hfz6_2, hfz6_3, hfz6_4, hfz6_5, hfz6_6⟩ := czf7 BK0.out))
  go_ret
  exact ⟨aq11, aq3⟩
 rw [if_pos c2] at H
 have c2b0 : (a0_0 == 6) = true := beq_iff_eq.mpr c2
 have c2b1 : (a0_0 != 6) = false := bne_eq_false_iff_eq.mpr c2
 clear c2
 obtain rfl := Option.some.inj H
 go_enter Tryd.func35, Tryd.ntmps35
 go_wp2_with (first | ((with_reducible refine gate_dst (N := 1) rfl ?_); refine box_event ?hg (N := 1) ?hd (cs := #[.int .i64 a0_0, .int .i64 a0_1, .int .i64 a0_2, .int .i64 a0_3, .int .i64 a0_4, .int .i64 a0_5, .int .i64 a0_6]) (t := 28) ?hr ?_; (case hd => rfl); (case hg => rfl); (case hr => first | (go_simp; done) | (go_simp; rfl)); intro gb0 hg w3 hbox hb; have BK0 := Aside0.mk (hbox); have GW0 := Aside0.mk ((by rw [hg]; exact (below_size aq0) : w.heap.size ≤ gb0)); have GE0 := Aside0.mk ((by rw [hg]; exact (below_size aq0) : w.heap.size ≤ gb0)); replace HB := Aside0.mk (below_step aq0 hb); clear hb hbox hg; obtain ⟨hcz4_0, hcz4_1, hcz4_2, hcz4_3, hcz4_4, hcz4_5, hcz4_6, hfz4_0, hfz4_1, hfz4_2, hfz4_3, hfz4_4, hfz4_5, hfz4_6⟩ := czf7 BK0.out))
 go_ret
 exact ⟨aq11, aq3⟩
/-! ### palingref18_Less: function 18 -/
mutual
def palingref18_Less.l0 : Nat → List (S28) → List Bool → Int → Int → Option ((List (S28)))
  | 0, _, _, _, _ => none
  | k + 1, x0, x1, x6, x7 => if x7 < (x0.length : Int) then (if 0 ≤ x7 then (if x7 < (x1.length : Int) then (if rdOf false x1 x7 = true then (palingref18_Less.l0 k x0 x1 x6 (wrap64 (x7 + 1))) else (palingref18_Less.l0 k x0 x1 (wrap64 (x6 + 1)) (wrap64 (x7 + 1)))) else (none)) else (none)) else (palingref18_Less.l1 k x0 x1 ([] : List (S28)) x6 0)
def palingref18_Less.l1 : Nat → List (S28) → List Bool → List (S28) → Int → Int → Option ((List (S28)))
  | 0, _, _, _, _, _ => none
  | k + 1, x0, x1, x5, x6, x8 => if x8 < (x0.length : Int) then (if 0 ≤ x8 then (if x8 < (x1.length : Int) then (if rdOf false x1 x8 = true then (palingref18_Less.l1 k x0 x1 x5 x6 (wrap64 (x8 + 1))) else ((palingref18_goes.f ((rd_T28 x0 x8).f0) ((rd_T28 x0 x8).f1) ((rd_T28 x0 x8).f2) ((rd_T28 x0 x8).f3) ((rd_T28 x0 x8).f4) ((rd_T28 x0 x8).f5) ((rd_T28 x0 x8).f6)).bind fun t371 => (if t371 = true then (palingref18_Less.l2 k x0 x1 x5 x6 x8 0 0 ((rd_T28 x0 x8).f0) ((rd_T28 x0 x8).f1) ((rd_T28 x0 x8).f2) ((rd_T28 x0 x8).f3) ((rd_T28 x0 x8).f4) ((rd_T28 x0 x8).f5) ((rd_T28 x0 x8).f6)) else (if x5.length < 2513169434916 then (palingref18_Less.l1 k x0 x1 (x5 ++ [(⟨(rd_T28 x0 x8).f0, (rd_T28 x0 x8).f1, (rd_T28 x0 x8).f2, (rd_T28 x0 x8).f3, (rd_T28 x0 x8).f4, (rd_T28 x0 x8).f5, (rd_T28 x0 x8).f6⟩ : S28)]) x6 (wrap64 (x8 + 1))) else (none))))) else (none)) else (none)) else (some x5)
def palingref18_Less.l2 : Nat → List (S28) → List Bool → List (S28) → Int → Int → Int → Int → Int → Int → Int → Int → Int → Int → Int → Option ((List (S28)))
  | 0, _, _, _, _, _, _, _, _, _, _, _, _, _, _ => none
  | k + 1, x0, x1, x5, x6, x8, x10, x11, x371000, x371001, x371002, x371003, x371004, x371005, x371006 => if x11 < x371006 then (if 0 ≤ x11 then (if x11 < (x1.length : Int) then (if rdOf false x1 x11 = true then (palingref18_Less.l2 k x0 x1 x5 x6 x8 x10 (wrap64 (x11 + 1)) x371000 x371001 x371002 x371003 x371004 x371005 x371006) else (palingref18_Less.l2 k x0 x1 x5 x6 x8 (wrap64 (x10 + 1)) (wrap64 (x11 + 1)) x371000 x371001 x371002 x371003 x371004 x371005 x371006)) else (none)) else (none)) else (if x5.length < 2513169434916 then (palingref18_Less.l1 k x0 x1 (x5 ++ [(⟨x371000, x371001, x371002, x371003, x371004, x371005, mn x10 (wrap64 (x6 - 1))⟩ : S28)]) x6 (wrap64 (x8 + 1))) else (none))
end
def palingref18_Less.f (k : Nat) (l0 : List (S28)) (l1 : List Bool) : Option ((List (S28))) := palingref18_Less.l0 k l0 l1 0 0
theorem palingref18_Less.mono_l : ∀ k, (∀ y0 y1 y2 y3, LeO (palingref18_Less.l0 k y0 y1 y2 y3) (palingref18_Less.l0 (k + 1) y0 y1 y2 y3)) ∧ (∀ y0 y1 y2 y3 y4, LeO (palingref18_Less.l1 k y0 y1 y2 y3 y4) (palingref18_Less.l1 (k + 1) y0 y1 y2 y3 y4)) ∧ (∀ y0 y1 y2 y3 y4 y5 y6 y7 y8 y9 y10 y11 y12 y13, LeO (palingref18_Less.l2 k y0 y1 y2 y3 y4 y5 y6 y7 y8 y9 y10 y11 y12 y13) (palingref18_Less.l2 (k + 1) y0 y1 y2 y3 y4 y5 y6 y7 y8 y9 y10 y11 y12 y13))
  | 0 => ⟨fun _ _ _ _ r h => by simp [palingref18_Less.l0] at h, fun _ _ _ _ _ r h => by simp [palingref18_Less.l1] at h, fun _ _ _ _ _ _ _ _ _ _ _ _ _ _ r h => by simp [palingref18_Less.l2] at h⟩
  | k + 1 => by
    obtain ⟨ih0, ih1, ih2⟩ := palingref18_Less.mono_l k
    refine ⟨?_, ?_, ?_⟩ <;> intros <;> (first | unfold palingref18_Less.l0 | unfold palingref18_Less.l1 | unfold palingref18_Less.l2) <;> repeat' (first | (with_reducible first | exact ih0 _ _ _ _ | exact ih1 _ _ _ _ _ | exact ih2 _ _ _ _ _ _ _ _ _ _ _ _ _ _ | exact LeO.refl _ | exact LeO.none _ | refine LeO.ite ?_ ?_ | refine LeO.bind ?_ (fun _ => ?_)) | exact ih0 _ _ _ _ | exact ih1 _ _ _ _ _ | exact ih2 _ _ _ _ _ _ _ _ _ _ _ _ _ _ | exact LeO.none _ | refine LeO.ite ?_ ?_ | refine LeO.bind ?_ (fun _ => ?_))
theorem palingref18_Less.mono : ∀ a0 a1 k, LeO (palingref18_Less.f k a0 a1) (palingref18_Less.f (k + 1) a0 a1) := by
 intro a0 a1 k
 obtain ⟨ih0, ih1, ih2⟩ := palingref18_Less.mono_l k
 unfold palingref18_Less.f
 repeat' (first | (with_reducible first | exact ih0 _ _ _ _ | exact ih1 _ _ _ _ _ | exact ih2 _ _ _ _ _ _ _ _ _ _ _ _ _ _ | exact LeO.refl _ | exact LeO.none _ | refine LeO.ite ?_ ?_ | refine LeO.bind ?_ (fun _ => ?_)) | exact ih0 _ _ _ _ | exact ih1 _ _ _ _ _ | exact ih2 _ _ _ _ _ _ _ _ _ _ _ _ _ _ | exact LeO.none _ | refine LeO.ite ?_ ?_ | refine LeO.bind ?_ (fun _ => ?_))
set_option maxHeartbeats 8000000 in
set_option maxRecDepth 100000 in
theorem palingref18_Less.calls (k : Nat) (A0 : Option Addr) (c0 : Nat) (l0 : List (S28)) (A1 : Option Addr) (c1 : Nat) (l1 : List Bool) (r : List (S28)) (w : World) (hr0 : Kd.C k28 w A0 l0.length l0) (hc0 : l0.length ≤ c0) (hr1 : Kd.C Kd.bool w A1 l1.length l1) (hc1 : l1.length ≤ c1) (h : palingref18_Less.f k l0 l1 = some r) :
    Calls Tryd.prog 18 #[.slice A0 l0.length c0, .slice A1 l1.length c1] w fun e w' => ∃ v0_ : Value, e = .returned (v0_) ∧ Kd.R k28 28 w' w.heap.size (fun _ => True) v0_ r ∧ Below w.heap.size w w' := by
 have hu28 := Tryd.underlying28
 have HR0 := Aside0.mk hr0
 have HC0 := Aside0.mk hc0
 clear hr0 hc0
 have HR1 := Aside0.mk hr1
 have HC1 := Aside0.mk hc1
 clear hr1 hc1
 have HB := Aside0.mk (Below.refl w.heap.size w)
 have H : (palingref18_Less.l0 k l0 l1 0 0) = some r := h
 clear h
 have H' := Aside0.mk H
 clear H
 go_enter Tryd.func18, Tryd.ntmps18
 go_wp2
 go_loopg [6, 7] k (fun kq v6 v7 w' => ∃ (x6_1 : Int) (x7_1 : Int), v6 = .int .i64 x6_1 ∧ v7 = .int .i64 x7_1 ∧ Aside0 (palingref18_Less.l0 kq l0 l1 x6_1 x7_1 = some r) ∧ Aside0 (kq ≤ k) ∧ Aside0 (Below w.heap.size w w'))
 case atStart => exact ⟨(0), (0), aq5, aq5, H', ⟨Nat.le_refl _⟩, ⟨aq0⟩⟩
 case round =>
  clear H'
  obtain ⟨x6_1, x7_1, rfl, rfl, HA, HK1, HB⟩ := hrel
  cases gk with
  | zero => exact absurd HA.out (by simp [palingref18_Less.l0])
  | succ k1 =>
   have H := HA.out
   clear HA
   simp only [palingref18_Less.l0] at H
   by_cases c3 : x7_1 < (l0.length : Int)
   ·rw [if_pos c3] at H
    have c3b0 : decide (x7_1 < (l0.length : Int)) = true := decide_eq_true c3
    clear c3
    by_cases c4 : 0 ≤ x7_1
    rotate_left
    ·rw [if_neg c4] at H
     exact absurd H (by simp)
    rw [if_pos c4] at H
    have c4b0 : decide (0 ≤ x7_1) = true := decide_eq_true c4
    clear c4
    by_cases c5 : x7_1 < (l1.length : Int)
    rotate_left
    ·rw [if_neg c5] at H
     exact absurd H (by simp)
    rw [if_pos c5] at H
    have c5b0 : decide (x7_1 < (l1.length : Int)) = true := decide_eq_true c5
    clear c5
    obtain ⟨bq6, hbq6⟩ : ∃ b_ : Bool, b_ = (rdOf false l1 x7_1) := ⟨_, rfl⟩
    replace H : (if bq6 = true then (palingref18_Less.l0 k1 l0 l1 x6_1 (wrap64 (x7_1 + 1))) else (palingref18_Less.l0 k1 l0 l1 (wrap64 (x6_1 + 1)) (wrap64 (x7_1 + 1)))) = some r := by rw [← hbq6] at H; exact H
    have Nbq6 := Aside0.mk hbq6
    clear hbq6
    by_cases c7 : bq6 = true
    ·subst c7
     rw [if_pos rfl] at H
     have H' := Aside0.mk H
     clear H
     have p367 : 0 ≤ (x7_1 : Int) := of_decide_eq_true aq2
     have q367 : x7_1 < (l1.length : Int) := of_decide_eq_true aq2
     obtain ⟨ad367, e367, hx367_0⟩ := Kd.at_bool HR1.out x7_1 p367 q367
     (try rw [← Nbq6.out] at hx367_0)
     cases e367
     replace hx367_0 := (HB.out.cell (World.block_lt_of_cell? w _ hx367_0)).trans hx367_0
     replace p367 := eq_true p367
     replace q367 := eq_true q367
     go_wp2
     go_roundg k1
     case measure => have := HK1.out; omega
     case rel => exact ⟨(x6_1), (wrap64 (x7_1 + 1)), aq5, aq5, H', ⟨aq47⟩, ⟨aq0⟩⟩
    replace c7 := Bool.eq_false_iff.mpr c7
    subst c7
    rw [if_neg nf_] at H
    have H' := Aside0.mk H
    clear H
    have p367 : 0 ≤ (x7_1 : Int) := of_decide_eq_true aq2
    have q367 : x7_1 < (l1.length : Int) := of_decide_eq_true aq2
    obtain ⟨ad367, e367, hx367_0⟩ := Kd.at_bool HR1.out x7_1 p367 q367
    (try rw [← Nbq6.out] at hx367_0)
    cases e367
    replace hx367_0 := (HB.out.cell (World.block_lt_of_cell? w _ hx367_0)).trans hx367_0
    replace p367 := eq_true p367
    replace q367 := eq_true q367
    go_wp2
    go_roundg k1
    case measure => have := HK1.out; omega
    case rel => exact ⟨(wrap64 (x6_1 + 1)), (wrap64 (x7_1 + 1)), aq5, aq5, H', ⟨aq47⟩, ⟨aq0⟩⟩
   rw [if_neg c3] at H
   have c3b0 : decide (x7_1 < (l0.length : Int)) = false := decide_eq_false c3
   clear c3
   have H' := Aside0.mk H
   clear H
   go_wp2
   go_loopg [5, 8] k1 (fun kq v5 v8 w' => ∃ (x5_2 : List (S28)) (x8_2 : Int), v8 = .int .i64 x8_2 ∧ Aside0 (palingref18_Less.l1 kq l0 l1 x5_2 x6_1 x8_2 = some r) ∧ Aside0 (kq ≤ k1) ∧ Aside0 (Kd.R k28 28 w' w.heap.size (fun _ => True) v5 x5_2) ∧ Aside0 (Below w.heap.size w w'))
   case atStart => exact ⟨(([] : List (S28))), (0), aq5, H', ⟨Nat.le_refl _⟩, ⟨aq28⟩, ⟨aq0⟩⟩
   case round =>
    clear H'
    obtain ⟨x5_2, x8_2, rfl, HA, HK2, HO_5, HB⟩ := hrel
    cases gk with
    | zero => exact absurd HA.out (by simp [palingref18_Less.l1])
    | succ k2 =>
     have H := HA.out
     clear HA
     simp only [palingref18_Less.l1] at H
     by_cases c8 : x8_2 < (l0.length : Int)
     rotate_left
     ·rw [if_neg c8] at H
      have c8b0 : decide (x8_2 < (l0.length : Int)) = false := decide_eq_false c8
      clear c8
      obtain rfl := Option.some.inj H
      go_wp2
      go_ret
      exact ⟨_, aq11, aq12, aq0⟩
     rw [if_pos c8] at H
     have c8b0 : decide (x8_2 < (l0.length : Int)) = true := decide_eq_true c8
     clear c8
     by_cases c9 : 0 ≤ x8_2
     rotate_left
     ·rw [if_neg c9] at H
      exact absurd H (by simp)
     rw [if_pos c9] at H
     have c9b0 : decide (0 ≤ x8_2) = true := decide_eq_true c9
     clear c9
     by_cases c10 : x8_2 < (l1.length : Int)
     rotate_left
     ·rw [if_neg c10] at H
      exact absurd H (by simp)
     rw [if_pos c10] at H
     have c10b0 : decide (x8_2 < (l1.length : Int)) = true := decide_eq_true c10
     clear c10
     obtain ⟨bq11, hbq11⟩ : ∃ b_ : Bool, b_ = (rdOf false l1 x8_2) := ⟨_, rfl⟩
     replace H : (if bq11 = true then (palingref18_Less.l1 k2 l0 l1 x5_2 x6_1 (wrap64 (x8_2 + 1))) else ((palingref18_goes.f ((rd_T28 l0 x8_2).f0) ((rd_T28 l0 x8_2).f1) ((rd_T28 l0 x8_2).f2) ((rd_T28 l0 x8_2).f3) ((rd_T28 l0 x8_2).f4) ((rd_T28 l0 x8_2).f5) ((rd_T28 l0 x8_2).f6)).bind fun t371 => (if t371 = true then (palingref18_Less.l2 k2 l0 l1 x5_2 x6_1 x8_2 0 0 ((rd_T28 l0 x8_2).f0) ((rd_T28 l0 x8_2).f1) ((rd_T28 l0 x8_2).f2) ((rd_T28 l0 x8_2).f3) ((rd_T28 l0 x8_2).f4) ((rd_T28 l0 x8_2).f5) ((rd_T28 l0 x8_2).f6)) else (if x5_2.length < 2513169434916 then (palingref18_Less.l1 k2 l0 l1 (x5_2 ++ [(⟨(rd_T28 l0 x8_2).f0, (rd_T28 l0 x8_2).f1, (rd_T28 l0 x8_2).f2, (rd_T28 l0 x8_2).f3, (rd_T28 l0 x8_2).f4, (rd_T28 l0 x8_2).f5, (rd_T28 l0 x8_2).f6⟩ : S28)]) x6_1 (wrap64 (x8_2 + 1))) else (none))))) = some r := by rw [← hbq11] at H; exact H
     have Nbq11 := Aside0.mk hbq11
     clear hbq11
     by_cases c12 : bq11 = true
     ·subst c12
      rw [if_pos rfl] at H
      have H' := Aside0.mk H
      clear H
      have p368 : 0 ≤ (x8_2 : Int) := of_decide_eq_true aq2
      have q368 : x8_2 < (l1.length : Int) := of_decide_eq_true aq2
      obtain ⟨ad368, e368, hx368_0⟩ := Kd.at_bool HR1.out x8_2 p368 q368
      (try rw [← Nbq11.out] at hx368_0)
      cases e368
      replace hx368_0 := (HB.out.cell (World.block_lt_of_cell? w _ hx368_0)).trans hx368_0
      replace p368 := eq_true p368
      replace q368 := eq_true q368
      go_wp2
      go_roundg k2
      case measure => have := HK1.out; have := HK2.out; omega
      case rel => exact ⟨(x5_2), (wrap64 (x8_2 + 1)), aq5, H', ⟨aq39⟩, ⟨aq12⟩, ⟨aq0⟩⟩
     replace c12 := Bool.eq_false_iff.mpr c12
     subst c12
     rw [if_neg nf_] at H
     obtain ⟨t371, A13, H⟩ := bS_ H
     by_cases c14 : t371 = true
     rotate_left
     ·replace c14 := Bool.eq_false_iff.mpr c14
      subst c14
      rw [if_neg nf_] at H
      by_cases c29 : x5_2.length < 2513169434916
      rotate_left
      ·rw [if_neg c29] at H
       exact absurd H (by simp)
      rw [if_pos c29] at H
      have LMc29 := Aside0.mk c29
      clear c29
      obtain ⟨y376, hy_⟩ : ∃ y_ : List (S28), y_ = (x5_2 ++ [(⟨(rd_T28 l0 x8_2).f0, (rd_T28 l0 x8_2).f1, (rd_T28 l0 x8_2).f2, (rd_T28 l0 x8_2).f3, (rd_T28 l0 x8_2).f4, (rd_T28 l0 x8_2).f5, (rd_T28 l0 x8_2).f6⟩ : S28)]) := ⟨_, rfl⟩
      replace H : (palingref18_Less.l1 k2 l0 l1 y376 x6_1 (wrap64 (x8_2 + 1))) = some r := aq1
      have Ny376 := Aside0.mk hy_
      clear hy_
      have H' := Aside0.mk H
      clear H
      have p368 : 0 ≤ (x8_2 : Int) := of_decide_eq_true aq2
      have q368 : x8_2 < (l1.length : Int) := of_decide_eq_true aq2
      obtain ⟨ad368, e368, hx368_0⟩ := Kd.at_bool HR1.out x8_2 p368 q368
      (try rw [← Nbq11.out] at hx368_0)
      cases e368
      replace hx368_0 := (HB.out.cell (World.block_lt_of_cell? w _ hx368_0)).trans hx368_0
      replace p368 := eq_true p368
      replace q368 := eq_true q368
      have p369 : 0 ≤ (x8_2 : Int) := of_decide_eq_true aq2
      have q369 : x8_2 < (l0.length : Int) := of_decide_eq_true aq2
      obtain ⟨ad369, e369, hx369_0, hx369_1, hx369_2, hx369_3, hx369_4, hx369_5, hx369_6⟩ := at_T28 HR0.out x8_2 p369 q369
      cases e369
      have n_ := cb7 HB.out hx369_0 hx369_1 hx369_2 hx369_3 hx369_4 hx369_5 hx369_6
      clear hx369_0 hx369_1 hx369_2 hx369_3 hx369_4 hx369_5 hx369_6
      obtain ⟨hx369_0, hx369_1, hx369_2, hx369_3, hx369_4, hx369_5, hx369_6⟩ := n_
      replace p369 := eq_true p369
      replace q369 := eq_true q369
      go_wp2_with (first | ((with_reducible refine gate_dst (N := 9) rfl ?_); refine box_event ?hg (N := 9) ?hd (cs := #[.int .i64 0, .int .i64 0, .int .i64 0, .int .i64 0, .int .i64 0, .int .i64 0, .int .i64 0]) (t := 28) ?hr ?_; (case hd => rfl); (case hg => rfl); (case hr => first | (go_simp; done) | (go_simp; rfl)); intro gb0 hg w30 hbox hb; replace HO_5 := Aside0.mk (Kd.R_below (Kd.R_elderB aq12 gb0 (Nat.le_of_eq hg.symm)) hb); have BK0 := Aside0.mk (hbox); have GW0 := Aside0.mk ((by rw [hg]; exact (below_size aq0) : w.heap.size ≤ gb0)); have GE0 := Aside0.mk ((by rw [hg]; exact (below_size aq0) : w.heap.size ≤ gb0)); replace HB := Aside0.mk (below_step aq0 hb); clear hb hbox hg; obtain ⟨hcz31_0, hcz31_1, hcz31_2, hcz31_3, hcz31_4, hcz31_5, hcz31_6, hfz31_0, hfz31_1, hfz31_2, hfz31_3, hfz31_4, hfz31_5, hfz31_6⟩ := czf7 BK0.out) | ((with_reducible refine gate_callee (f := 35) rfl ?_); refine goesL_ (some 40) rfl rfl Tryd.func35 (by kernel_rfl) rfl #[.agg #[.int .i64 ((rd_T28 l0 x8_2).f0), .int .i64 ((rd_T28 l0 x8_2).f1), .int .i64 ((rd_T28 l0 x8_2).f2), .int .i64 ((rd_T28 l0 x8_2).f3), .int .i64 ((rd_T28 l0 x8_2).f4), .int .i64 ((rd_T28 l0 x8_2).f5), .int .i64 ((rd_T28 l0 x8_2).f6)]] rfl aq4 ?_; (with_reducible refine (palingref18_goes.calls ((rd_T28 l0 x8_2).f0) ((rd_T28 l0 x8_2).f1) ((rd_T28 l0 x8_2).f2) ((rd_T28 l0 x8_2).f3) ((rd_T28 l0 x8_2).f4) ((rd_T28 l0 x8_2).f5) ((rd_T28 l0 x8_2).f6) false _ A13.out).mono ?_); rintro e w32 ⟨rfl, hb⟩; refine ⟨_, rfl, ?_⟩; replace HO_5 := Aside0.mk (Kd.R_below (by (with_reducible repeat (first | apply Kd.R_alloc | apply Kd.R_drewN | apply Kd.R_drew)); exact (Kd.R_mono (Kd.R_far (p := ⟨gb0, 6, none⟩) (Kd.R_far (p := ⟨gb0, 5, none⟩) (Kd.R_far (p := ⟨gb0, 4, none⟩) (Kd.R_far (p := ⟨gb0, 3, none⟩) (Kd.R_far (p := ⟨gb0, 2, none⟩) (Kd.R_far (p := ⟨gb0, 1, none⟩) (Kd.R_far (p := ⟨gb0, 0, none⟩) (Kd.R_mono HO_5.out (fun k_ hk => (⟨hk, hk.2⟩ : _ ∧ k_ ≠ gb0))) (fun _ hk => hk.2) (.int .i64 ((rd_T28 l0 x8_2).f0))) (fun _ hk => hk.2) (.int .i64 ((rd_T28 l0 x8_2).f1))) (fun _ hk => hk.2) (.int .i64 ((rd_T28 l0 x8_2).f2))) (fun _ hk => hk.2) (.int .i64 ((rd_T28 l0 x8_2).f3))) (fun _ hk => hk.2) (.int .i64 ((rd_T28 l0 x8_2).f4))) (fun _ hk => hk.2) (.int .i64 ((rd_T28 l0 x8_2).f5))) (fun _ hk => hk.2) (.int .i64 ((rd_T28 l0 x8_2).f6))) (fun _ h_ => h_.1))) hb); replace BK0 := Aside0.mk (blk_below (g := gb0) (o := .cells #[.int .i64 ((rd_T28 l0 x8_2).f0), .int .i64 ((rd_T28 l0 x8_2).f1), .int .i64 ((rd_T28 l0 x8_2).f2), .int .i64 ((rd_T28 l0 x8_2).f3), .int .i64 ((rd_T28 l0 x8_2).f4), .int .i64 ((rd_T28 l0 x8_2).f5), .int .i64 ((rd_T28 l0 x8_2).f6)] 28 (0, 0)) (by (with_reducible repeat (first | refine blk_drewN ?_ _ | refine blk_drew ?_ | refine blk_alloc ?_ _)); refine blk_put (cs := #[.int .i64 ((rd_T28 l0 x8_2).f0), .int .i64 ((rd_T28 l0 x8_2).f1), .int .i64 ((rd_T28 l0 x8_2).f2), .int .i64 ((rd_T28 l0 x8_2).f3), .int .i64 ((rd_T28 l0 x8_2).f4), .int .i64 ((rd_T28 l0 x8_2).f5), .int .i64 0]) ?_ 6 _ rfl; (with_reducible repeat (first | refine blk_drewN ?_ _ | refine blk_drew ?_ | refine blk_alloc ?_ _)); refine blk_put (cs := #[.int .i64 ((rd_T28 l0 x8_2).f0), .int .i64 ((rd_T28 l0 x8_2).f1), .int .i64 ((rd_T28 l0 x8_2).f2), .int .i64 ((rd_T28 l0 x8_2).f3), .int .i64 ((rd_T28 l0 x8_2).f4), .int .i64 0, .int .i64 0]) ?_ 5 _ rfl; (with_reducible repeat (first | refine blk_drewN ?_ _ | refine blk_drew ?_ | refine blk_alloc ?_ _)); refine blk_put (cs := #[.int .i64 ((rd_T28 l0 x8_2).f0), .int .i64 ((rd_T28 l0 x8_2).f1), .int .i64 ((rd_T28 l0 x8_2).f2), .int .i64 ((rd_T28 l0 x8_2).f3), .int .i64 0, .int .i64 0, .int .i64 0]) ?_ 4 _ rfl; (with_reducible repeat (first | refine blk_drewN ?_ _ | refine blk_drew ?_ | refine blk_alloc ?_ _)); refine blk_put (cs := #[.int .i64 ((rd_T28 l0 x8_2).f0), .int .i64 ((rd_T28 l0 x8_2).f1), .int .i64 ((rd_T28 l0 x8_2).f2), .int .i64 0, .int .i64 0, .int .i64 0, .int .i64 0]) ?_ 3 _ rfl; (with_reducible repeat (first | refine blk_drewN ?_ _ | refine blk_drew ?_ | refine blk_alloc ?_ _)); refine blk_put (cs := #[.int .i64 ((rd_T28 l0 x8_2).f0), .int .i64 ((rd_T28 l0 x8_2).f1), .int .i64 0, .int .i64 0, .int .i64 0, .int .i64 0, .int .i64 0]) ?_ 2 _ rfl; (with_reducible repeat (first | refine blk_drewN ?_ _ | refine blk_drew ?_ | refine blk_alloc ?_ _)); refine blk_put (cs := #[.int .i64 ((rd_T28 l0 x8_2).f0), .int .i64 0, .int .i64 0, .int .i64 0, .int .i64 0, .int .i64 0, .int .i64 0]) ?_ 1 _ rfl; (with_reducible repeat (first | refine blk_drewN ?_ _ | refine blk_drew ?_ | refine blk_alloc ?_ _)); refine blk_put (cs := #[.int .i64 0, .int .i64 0, .int .i64 0, .int .i64 0, .int .i64 0, .int .i64 0, .int .i64 0]) ?_ 0 _ rfl; (with_reducible repeat (first | refine blk_drewN ?_ _ | refine blk_drew ?_ | refine blk_alloc ?_ _)); exact BK0.out) hb); replace HB := Aside0.mk (below_step aq3 hb); (try clear hb); (try clear hb2); (try clear hk); (try clear hi); obtain ⟨hcz33_0, hcz33_1, hcz33_2, hcz33_3, hcz33_4, hcz33_5, hcz33_6, hfz33_0, hfz33_1, hfz33_2, hfz33_3, hfz33_4, hfz33_5, hfz33_6⟩ := czf7 BK0.out) | ((with_reducible refine gate_builtin (b := .append) (xs := #[.tmp 59, .tmp 61]) rfl ?_); at_builtin; refine Kd.R_append k28 (w0 := w) w.heap.size rfl (.tmp 59) (.tmp 61) 32 28 (.agg #[(.int .i64 0), (.int .i64 0), (.int .i64 0), (.int .i64 0), (.int .i64 0), (.int .i64 0), (.int .i64 0)]) 56 rfl Tryd.underlying32 info28 rfl (by decide) (by omega) u5 x5_2 (⟨(rd_T28 l0 x8_2).f0, (rd_T28 l0 x8_2).f1, (rd_T28 l0 x8_2).f2, (rd_T28 l0 x8_2).f3, (rd_T28 l0 x8_2).f4, (rd_T28 l0 x8_2).f5, (rd_T28 l0 x8_2).f6⟩ : S28) [.int .i64 ((rd_T28 l0 x8_2).f0), .int .i64 ((rd_T28 l0 x8_2).f1), .int .i64 ((rd_T28 l0 x8_2).f2), .int .i64 ((rd_T28 l0 x8_2).f3), .int .i64 ((rd_T28 l0 x8_2).f4), .int .i64 ((rd_T28 l0 x8_2).f5), .int .i64 ((rd_T28 l0 x8_2).f6)] (fun k_ => k_ ≠ gb0) (fun _ => False) rfl rfl ?aP (fun _ hk => hk.elim) ?aF ?aO ?aB ?aS ?aL ?_; (case aP => exact k28_mkM _ _ _ (⟨(rd_T28 l0 x8_2).f0, (rd_T28 l0 x8_2).f1, (rd_T28 l0 x8_2).f2, (rd_T28 l0 x8_2).f3, (rd_T28 l0 x8_2).f4, (rd_T28 l0 x8_2).f5, (rd_T28 l0 x8_2).f6⟩ : S28)); (case aB => exact aq3); (case aF => exact (fun k_ hk => Kd.freshB (g := gb0) (o := .cells #[.int .i64 ((rd_T28 l0 x8_2).f0), .int .i64 ((rd_T28 l0 x8_2).f1), .int .i64 ((rd_T28 l0 x8_2).f2), .int .i64 ((rd_T28 l0 x8_2).f3), .int .i64 ((rd_T28 l0 x8_2).f4), .int .i64 ((rd_T28 l0 x8_2).f5), .int .i64 ((rd_T28 l0 x8_2).f6)] 28 (0, 0)) aq8 k_ hk)); (case aO => exact aq32); (case aS => exact (below_size aq3)); (case aL => have := LMc29.out; omega); intro v377 w34 ho hb hg hat; rw [← Ny376.out] at ho; replace BK0 := Aside0.mk (blk_grown (g := gb0) (o := .cells #[.int .i64 ((rd_T28 l0 x8_2).f0), .int .i64 ((rd_T28 l0 x8_2).f1), .int .i64 ((rd_T28 l0 x8_2).f2), .int .i64 ((rd_T28 l0 x8_2).f3), .int .i64 ((rd_T28 l0 x8_2).f4), .int .i64 ((rd_T28 l0 x8_2).f5), .int .i64 ((rd_T28 l0 x8_2).f6)] 28 (0, 0)) aq8 hg (Kd.R_away HO_5.out (fun _ hk => hk.2))); replace HB := Aside0.mk (hb); have HO378 := Aside0.mk (ho); clear HO_5; clear ho hb hg hat))
      go_roundg k2
      case measure => have := HK1.out; have := HK2.out; omega
      case rel => exact ⟨(y376), (wrap64 (x8_2 + 1)), aq5, H', ⟨aq39⟩, ⟨by (with_reducible repeat (first | apply Kd.R_alloc | apply Kd.R_drewN | apply Kd.R_drew)); exact Kd.R_mono HO378.out (fun _ hk => trivial)⟩, ⟨aq3⟩⟩
     subst c14
     rw [if_pos rfl] at H
     have H' := Aside0.mk H
     clear H
     have p368 : 0 ≤ (x8_2 : Int) := of_decide_eq_true aq2
     have q368 : x8_2 < (l1.length : Int) := of_decide_eq_true aq2
     obtain ⟨ad368, e368, hx368_0⟩ := Kd.at_bool HR1.out x8_2 p368 q368
     (try rw [← Nbq11.out] at hx368_0)
     cases e368
     replace hx368_0 := (HB.out.cell (World.block_lt_of_cell? w _ hx368_0)).trans hx368_0
     replace p368 := eq_true p368
     replace q368 := eq_true q368
     have p369 : 0 ≤ (x8_2 : Int) := of_decide_eq_true aq2
     have q369 : x8_2 < (l0.length : Int) := of_decide_eq_true aq2
     obtain ⟨ad369, e369, hx369_0, hx369_1, hx369_2, hx369_3, hx369_4, hx369_5, hx369_6⟩ := at_T28 HR0.out x8_2 p369 q369
     cases e369
     have n_ := cb7 HB.out hx369_0 hx369_1 hx369_2 hx369_3 hx369_4 hx369_5 hx369_6
     clear hx369_0 hx369_1 hx369_2 hx369_3 hx369_4 hx369_5 hx369_6
     obtain ⟨hx369_0, hx369_1, hx369_2, hx369_3, hx369_4, hx369_5, hx369_6⟩ := n_
     replace p369 := eq_true p369
     replace q369 := eq_true q369
     go_wp2_with (first | ((with_reducible refine gate_dst (N := 9) rfl ?_); refine box_event ?hg (N := 9) ?hd (cs := #[.int .i64 0, .int .i64 0, .int .i64 0, .int .i64 0, .int .i64 0, .int .i64 0, .int .i64 0]) (t := 28) ?hr ?_; (case hd => rfl); (case hg => rfl); (case hr => first | (go_simp; done) | (go_simp; rfl)); intro gb0 hg w15 hbox hb; replace HO_5 := Aside0.mk (Kd.R_below (Kd.R_elderB aq12 gb0 (Nat.le_of_eq hg.symm)) hb); have BK0 := Aside0.mk (hbox); have GW0 := Aside0.mk ((by rw [hg]; exact (below_size aq0) : w.heap.size ≤ gb0)); have GE0 := Aside0.mk ((by rw [hg]; exact (below_size aq0) : w.heap.size ≤ gb0)); replace HB := Aside0.mk (below_step aq0 hb); clear hb hbox hg; obtain ⟨hcz16_0, hcz16_1, hcz16_2, hcz16_3, hcz16_4, hcz16_5, hcz16_6, hfz16_0, hfz16_1, hfz16_2, hfz16_3, hfz16_4, hfz16_5, hfz16_6⟩ := czf7 BK0.out) | ((with_reducible refine gate_callee (f := 35) rfl ?_); refine goesL_ (some 40) rfl rfl Tryd.func35 (by kernel_rfl) rfl #[.agg #[.int .i64 ((rd_T28 l0 x8_2).f0), .int .i64 ((rd_T28 l0 x8_2).f1), .int .i64 ((rd_T28 l0 x8_2).f2), .int .i64 ((rd_T28 l0 x8_2).f3), .int .i64 ((rd_T28 l0 x8_2).f4), .int .i64 ((rd_T28 l0 x8_2).f5), .int .i64 ((rd_T28 l0 x8_2).f6)]] rfl aq4 ?_; (with_reducible refine (palingref18_goes.calls ((rd_T28 l0 x8_2).f0) ((rd_T28 l0 x8_2).f1) ((rd_T28 l0 x8_2).f2) ((rd_T28 l0 x8_2).f3) ((rd_T28 l0 x8_2).f4) ((rd_T28 l0 x8_2).f5) ((rd_T28 l0 x8_2).f6) true _ A13.out).mono ?_); rintro e w17 ⟨rfl, hb⟩; refine ⟨_, rfl, ?_⟩; replace HO_5 := Aside0.mk (Kd.R_below (by (with_reducible repeat (first | apply Kd.R_alloc | apply Kd.R_drewN | apply Kd.R_drew)); exact (Kd.R_mono (Kd.R_far (p := ⟨gb0, 6, none⟩) (Kd.R_far (p := ⟨gb0, 5, none⟩) (Kd.R_far (p := ⟨gb0, 4, none⟩) (Kd.R_far (p := ⟨gb0, 3, none⟩) (Kd.R_far (p := ⟨gb0, 2, none⟩) (Kd.R_far (p := ⟨gb0, 1, none⟩) (Kd.R_far (p := ⟨gb0, 0, none⟩) (Kd.R_mono HO_5.out (fun k_ hk => (⟨hk, hk.2⟩ : _ ∧ k_ ≠ gb0))) (fun _ hk => hk.2) (.int .i64 ((rd_T28 l0 x8_2).f0))) (fun _ hk => hk.2) (.int .i64 ((rd_T28 l0 x8_2).f1))) (fun _ hk => hk.2) (.int .i64 ((rd_T28 l0 x8_2).f2))) (fun _ hk => hk.2) (.int .i64 ((rd_T28 l0 x8_2).f3))) (fun _ hk => hk.2) (.int .i64 ((rd_T28 l0 x8_2).f4))) (fun _ hk => hk.2) (.int .i64 ((rd_T28 l0 x8_2).f5))) (fun _ hk => hk.2) (.int .i64 ((rd_T28 l0 x8_2).f6))) (fun _ h_ => h_.1))) hb); replace BK0 := Aside0.mk (blk_below (g := gb0) (o := .cells #[.int .i64 ((rd_T28 l0 x8_2).f0), .int .i64 ((rd_T28 l0 x8_2).f1), .int .i64 ((rd_T28 l0 x8_2).f2), .int .i64 ((rd_T28 l0 x8_2).f3), .int .i64 ((rd_T28 l0 x8_2).f4), .int .i64 ((rd_T28 l0 x8_2).f5), .int .i64 ((rd_T28 l0 x8_2).f6)] 28 (0, 0)) (by (with_reducible repeat (first | refine blk_drewN ?_ _ | refine blk_drew ?_ | refine blk_alloc ?_ _)); refine blk_put (cs := #[.int .i64 ((rd_T28 l0 x8_2).f0), .int .i64 ((rd_T28 l0 x8_2).f1), .int .i64 ((rd_T28 l0 x8_2).f2), .int .i64 ((rd_T28 l0 x8_2).f3), .int .i64 ((rd_T28 l0 x8_2).f4), .int .i64 ((rd_T28 l0 x8_2).f5), .int .i64 0]) ?_ 6 _ rfl; (with_reducible repeat (first | refine blk_drewN ?_ _ | refine blk_drew ?_ | refine blk_alloc ?_ _)); refine blk_put (cs := #[.int .i64 ((rd_T28 l0 x8_2).f0), .int .i64 ((rd_T28 l0 x8_2).f1), .int .i64 ((rd_T28 l0 x8_2).f2), .int .i64 ((rd_T28 l0 x8_2).f3), .int .i64 ((rd_T28 l0 x8_2).f4), .int .i64 0, .int .i64 0]) ?_ 5 _ rfl; (with_reducible repeat (first | refine blk_drewN ?_ _ | refine blk_drew ?_ | refine blk_alloc ?_ _)); refine blk_put (cs := #[.int .i64 ((rd_T28 l0 x8_2).f0), .int .i64 ((rd_T28 l0 x8_2).f1), .int .i64 ((rd_T28 l0 x8_2).f2), .int .i64 ((rd_T28 l0 x8_2).f3), .int .i64 0, .int .i64 0, .int .i64 0]) ?_ 4 _ rfl; (with_reducible repeat (first | refine blk_drewN ?_ _ | refine blk_drew ?_ | refine blk_alloc ?_ _)); refine blk_put (cs := #[.int .i64 ((rd_T28 l0 x8_2).f0), .int .i64 ((rd_T28 l0 x8_2).f1), .int .i64 ((rd_T28 l0 x8_2).f2), .int .i64 0, .int .i64 0, .int .i64 0, .int .i64 0]) ?_ 3 _ rfl; (with_reducible repeat (first | refine blk_drewN ?_ _ | refine blk_drew ?_ | refine blk_alloc ?_ _)); refine blk_put (cs := #[.int .i64 ((rd_T28 l0 x8_2).f0), .int .i64 ((rd_T28 l0 x8_2).f1), .int .i64 0, .int .i64 0, .int .i64 0, .int .i64 0, .int .i64 0]) ?_ 2 _ rfl; (with_reducible repeat (first | refine blk_drewN ?_ _ | refine blk_drew ?_ | refine blk_alloc ?_ _)); refine blk_put (cs := #[.int .i64 ((rd_T28 l0 x8_2).f0), .int .i64 0, .int .i64 0, .int .i64 0, .int .i64 0, .int .i64 0, .int .i64 0]) ?_ 1 _ rfl; (with_reducible repeat (first | refine blk_drewN ?_ _ | refine blk_drew ?_ | refine blk_alloc ?_ _)); refine blk_put (cs := #[.int .i64 0, .int .i64 0, .int .i64 0, .int .i64 0, .int .i64 0, .int .i64 0, .int .i64 0]) ?_ 0 _ rfl; (with_reducible repeat (first | refine blk_drewN ?_ _ | refine blk_drew ?_ | refine blk_alloc ?_ _)); exact BK0.out) hb); replace HB := Aside0.mk (below_step aq3 hb); (try clear hb); (try clear hb2); (try clear hk); (try clear hi)))
     go_loopg [10, 11] k2 (fun kq v10 v11 w' => ∃ (x10_3 : Int) (x11_3 : Int), v10 = .int .i64 x10_3 ∧ v11 = .int .i64 x11_3 ∧ Aside0 (palingref18_Less.l2 kq l0 l1 x5_2 x6_1 x8_2 x10_3 x11_3 ((rd_T28 l0 x8_2).f0) ((rd_T28 l0 x8_2).f1) ((rd_T28 l0 x8_2).f2) ((rd_T28 l0 x8_2).f3) ((rd_T28 l0 x8_2).f4) ((rd_T28 l0 x8_2).f5) ((rd_T28 l0 x8_2).f6) = some r) ∧ Aside0 (kq ≤ k2) ∧ Aside0 (Kd.R k28 28 w' w.heap.size (fun k_ => k_ ≠ gb0) u5 x5_2) ∧ Aside0 (w'.heap[gb0]? = some (.cells #[.int .i64 ((rd_T28 l0 x8_2).f0), .int .i64 ((rd_T28 l0 x8_2).f1), .int .i64 ((rd_T28 l0 x8_2).f2), .int .i64 ((rd_T28 l0 x8_2).f3), .int .i64 ((rd_T28 l0 x8_2).f4), .int .i64 ((rd_T28 l0 x8_2).f5), .int .i64 ((rd_T28 l0 x8_2).f6)] 28 (0, 0))) ∧ Aside0 (Below w.heap.size w w'))
     case atStart => exact ⟨(0), (0), aq5, aq5, H', ⟨Nat.le_refl _⟩, ⟨aq32⟩, ⟨aq8⟩, ⟨aq3⟩⟩
     case round =>
      clear H'
      obtain ⟨x10_3, x11_3, rfl, rfl, HA, HK3, HO_5, BK0, HB⟩ := hrel
      cases gk with
      | zero => exact absurd HA.out (by simp [palingref18_Less.l2])
      | succ k3 =>
       have H := HA.out
       clear HA
       simp only [palingref18_Less.l2] at H
       by_cases c18 : x11_3 < ((rd_T28 l0 x8_2).f6)
       rotate_left
       ·rw [if_neg c18] at H
        have c18b0 : decide (x11_3 < ((rd_T28 l0 x8_2).f6)) = false := decide_eq_false c18
        clear c18
        obtain ⟨ji25, hji25⟩ : ∃ j_ : Int, (mn x10_3 (wrap64 (x6_1 - 1))) = j_ := ⟨_, rfl⟩
        replace H : (if x5_2.length < 2513169434916 then (palingref18_Less.l1 k3 l0 l1 (x5_2 ++ [(⟨((rd_T28 l0 x8_2).f0), ((rd_T28 l0 x8_2).f1), ((rd_T28 l0 x8_2).f2), ((rd_T28 l0 x8_2).f3), ((rd_T28 l0 x8_2).f4), ((rd_T28 l0 x8_2).f5), ji25⟩ : S28)]) x6_1 (wrap64 (x8_2 + 1))) else (none)) = some r := by first | (rw [hji25] at H; exact H) | (simp only [hji25] at H ⊢; exact H)
        have hji25_ : (if (wrap64 (x6_1 - 1)) < x10_3 then (wrap64 (x6_1 - 1)) else x10_3) = ji25 := hji25
        by_cases c26 : x5_2.length < 2513169434916
        rotate_left
        ·rw [if_neg c26] at H
         exact absurd H (by simp)
        rw [if_pos c26] at H
        have LMc26 := Aside0.mk c26
        clear c26
        obtain ⟨y373, hy_⟩ : ∃ y_ : List (S28), y_ = (x5_2 ++ [(⟨((rd_T28 l0 x8_2).f0), ((rd_T28 l0 x8_2).f1), ((rd_T28 l0 x8_2).f2), ((rd_T28 l0 x8_2).f3), ((rd_T28 l0 x8_2).f4), ((rd_T28 l0 x8_2).f5), ji25⟩ : S28)]) := ⟨_, rfl⟩
        replace H : (palingref18_Less.l1 k3 l0 l1 y373 x6_1 (wrap64 (x8_2 + 1))) = some r := aq1
        have Ny373 := Aside0.mk hy_
        clear hy_
        have H' := Aside0.mk H
        clear H
        obtain ⟨hcz27_0, hcz27_1, hcz27_2, hcz27_3, hcz27_4, hcz27_5, hcz27_6, hfz27_0, hfz27_1, hfz27_2, hfz27_3, hfz27_4, hfz27_5, hfz27_6⟩ := czf7 BK0.out
        go_wp2_with (first | ((with_reducible refine gate_builtin (b := .append) (xs := #[.tmp 59, .tmp 61]) rfl ?_); at_builtin; refine Kd.R_append k28 (w0 := w) w.heap.size rfl (.tmp 59) (.tmp 61) 32 28 (.agg #[(.int .i64 0), (.int .i64 0), (.int .i64 0), (.int .i64 0), (.int .i64 0), (.int .i64 0), (.int .i64 0)]) 56 rfl Tryd.underlying32 info28 rfl (by decide) (by omega) u5 x5_2 (⟨((rd_T28 l0 x8_2).f0), ((rd_T28 l0 x8_2).f1), ((rd_T28 l0 x8_2).f2), ((rd_T28 l0 x8_2).f3), ((rd_T28 l0 x8_2).f4), ((rd_T28 l0 x8_2).f5), ji25⟩ : S28) [.int .i64 ((rd_T28 l0 x8_2).f0), .int .i64 ((rd_T28 l0 x8_2).f1), .int .i64 ((rd_T28 l0 x8_2).f2), .int .i64 ((rd_T28 l0 x8_2).f3), .int .i64 ((rd_T28 l0 x8_2).f4), .int .i64 ((rd_T28 l0 x8_2).f5), .int .i64 ji25] (fun k_ => k_ ≠ gb0) (fun _ => False) rfl (by first | (go_simp; done) | (go_simp; rfl)) ?aP (fun _ hk => hk.elim) ?aF ?aO ?aB ?aS ?aL ?_; (case aP => exact k28_mkM _ _ _ (⟨((rd_T28 l0 x8_2).f0), ((rd_T28 l0 x8_2).f1), ((rd_T28 l0 x8_2).f2), ((rd_T28 l0 x8_2).f3), ((rd_T28 l0 x8_2).f4), ((rd_T28 l0 x8_2).f5), ji25⟩ : S28)); (case aB => exact aq3); (case aF => exact (fun k_ hk => Kd.freshB (g := gb0) (o := .cells #[.int .i64 ((rd_T28 l0 x8_2).f0), .int .i64 ((rd_T28 l0 x8_2).f1), .int .i64 ((rd_T28 l0 x8_2).f2), .int .i64 ((rd_T28 l0 x8_2).f3), .int .i64 ((rd_T28 l0 x8_2).f4), .int .i64 ((rd_T28 l0 x8_2).f5), .int .i64 ji25] 28 (0, 0)) (by (with_reducible repeat (first | refine blk_drewN ?_ _ | refine blk_drew ?_ | refine blk_alloc ?_ _)); refine blk_put (cs := #[.int .i64 ((rd_T28 l0 x8_2).f0), .int .i64 ((rd_T28 l0 x8_2).f1), .int .i64 ((rd_T28 l0 x8_2).f2), .int .i64 ((rd_T28 l0 x8_2).f3), .int .i64 ((rd_T28 l0 x8_2).f4), .int .i64 ((rd_T28 l0 x8_2).f5), .int .i64 ((rd_T28 l0 x8_2).f6)]) ?_ 6 _ rfl; (with_reducible repeat (first | refine blk_drewN ?_ _ | refine blk_drew ?_ | refine blk_alloc ?_ _)); exact BK0.out) k_ hk)); (case aO => exact (by (with_reducible repeat (first | apply Kd.R_alloc | apply Kd.R_drewN | apply Kd.R_drew)); exact Kd.R_mono (Kd.R_far (p := ⟨gb0, 6, none⟩) (Kd.R_mono HO_5.out (fun k_ hk => (⟨hk, hk⟩ : _ ∧ k_ ≠ gb0))) (fun _ hk => hk.2) (.int .i64 ji25)) (fun _ hk => hk.1))); (case aS => exact (below_size aq3)); (case aL => have := LMc26.out; omega); intro v374 w28 ho hb hg hat; rw [← Ny373.out] at ho; replace BK0 := Aside0.mk (blk_grown (g := gb0) (o := .cells #[.int .i64 ((rd_T28 l0 x8_2).f0), .int .i64 ((rd_T28 l0 x8_2).f1), .int .i64 ((rd_T28 l0 x8_2).f2), .int .i64 ((rd_T28 l0 x8_2).f3), .int .i64 ((rd_T28 l0 x8_2).f4), .int .i64 ((rd_T28 l0 x8_2).f5), .int .i64 ji25] 28 (0, 0)) (by (with_reducible repeat (first | refine blk_drewN ?_ _ | refine blk_drew ?_ | refine blk_alloc ?_ _)); refine blk_put (cs := #[.int .i64 ((rd_T28 l0 x8_2).f0), .int .i64 ((rd_T28 l0 x8_2).f1), .int .i64 ((rd_T28 l0 x8_2).f2), .int .i64 ((rd_T28 l0 x8_2).f3), .int .i64 ((rd_T28 l0 x8_2).f4), .int .i64 ((rd_T28 l0 x8_2).f5), .int .i64 ((rd_T28 l0 x8_2).f6)]) ?_ 6 _ rfl; (with_reducible repeat (first | refine blk_drewN ?_ _ | refine blk_drew ?_ | refine blk_alloc ?_ _)); exact BK0.out) hg (Kd.R_away HO_5.out (fun _ hk => hk))); replace HB := Aside0.mk (hb); have HO375 := Aside0.mk (ho); clear HO_5; clear ho hb hg hat))
        go_roundg k3
        case measure => have := HK1.out; have := HK2.out; have := HK3.out; omega
        case rel => exact ⟨(y373), (wrap64 (x8_2 + 1)), aq5, H', ⟨aq46⟩, ⟨by (with_reducible repeat (first | apply Kd.R_alloc | apply Kd.R_drewN | apply Kd.R_drew)); exact Kd.R_mono HO375.out (fun _ hk => trivial)⟩, ⟨aq3⟩⟩
       rw [if_pos c18] at H
       have c18b0 : decide (x11_3 < ((rd_T28 l0 x8_2).f6)) = true := decide_eq_true c18
       clear c18
       by_cases c19 : 0 ≤ x11_3
       rotate_left
       ·rw [if_neg c19] at H
        exact absurd H (by simp)
       rw [if_pos c19] at H
       have c19b0 : decide (0 ≤ x11_3) = true := decide_eq_true c19
       clear c19
       by_cases c20 : x11_3 < (l1.length : Int)
       rotate_left
       ·rw [if_neg c20] at H
        exact absurd H (by simp)
       rw [if_pos c20] at H
       have c20b0 : decide (x11_3 < (l1.length : Int)) = true := decide_eq_true c20
       clear c20
       obtain ⟨bq21, hbq21⟩ : ∃ b_ : Bool, b_ = (rdOf false l1 x11_3) := ⟨_, rfl⟩
       replace H : (if bq21 = true then (palingref18_Less.l2 k3 l0 l1 x5_2 x6_1 x8_2 x10_3 (wrap64 (x11_3 + 1)) ((rd_T28 l0 x8_2).f0) ((rd_T28 l0 x8_2).f1) ((rd_T28 l0 x8_2).f2) ((rd_T28 l0 x8_2).f3) ((rd_T28 l0 x8_2).f4) ((rd_T28 l0 x8_2).f5) ((rd_T28 l0 x8_2).f6)) else (palingref18_Less.l2 k3 l0 l1 x5_2 x6_1 x8_2 (wrap64 (x10_3 + 1)) (wrap64 (x11_3 + 1)) ((rd_T28 l0 x8_2).f0) ((rd_T28 l0 x8_2).f1) ((rd_T28 l0 x8_2).f2) ((rd_T28 l0 x8_2).f3) ((rd_T28 l0 x8_2).f4) ((rd_T28 l0 x8_2).f5) ((rd_T28 l0 x8_2).f6))) = some r := by rw [← hbq21] at H; exact H
       have Nbq21 := Aside0.mk hbq21
       clear hbq21
       by_cases c22 : bq21 = true
       ·subst c22
        rw [if_pos rfl] at H
        have H' := Aside0.mk H
        clear H
        obtain ⟨hcz23_0, hcz23_1, hcz23_2, hcz23_3, hcz23_4, hcz23_5, hcz23_6, hfz23_0, hfz23_1, hfz23_2, hfz23_3, hfz23_4, hfz23_5, hfz23_6⟩ := czf7 BK0.out
        have p372 : 0 ≤ (x11_3 : Int) := of_decide_eq_true aq2
        have q372 : x11_3 < (l1.length : Int) := of_decide_eq_true aq2
        obtain ⟨ad372, e372, hx372_0⟩ := Kd.at_bool HR1.out x11_3 p372 q372
        (try rw [← Nbq11.out] at hx372_0)
        (try rw [← Nbq21.out] at hx372_0)
        obtain rfl : ad368 = ad372 := (by injection e372)
        replace hx372_0 := (HB.out.cell (World.block_lt_of_cell? w _ hx372_0)).trans hx372_0
        replace p372 := eq_true p372
        replace q372 := eq_true q372
        go_wp2
        go_roundg k3
        case measure => have := HK1.out; have := HK2.out; have := HK3.out; omega
        case rel => exact ⟨(x10_3), (wrap64 (x11_3 + 1)), aq5, aq5, H', ⟨aq46⟩, ⟨aq12⟩, ⟨aq8⟩, ⟨aq3⟩⟩
       replace c22 := Bool.eq_false_iff.mpr c22
       subst c22
       rw [if_neg nf_] at H
       have H' := Aside0.mk H
       clear H
       obtain ⟨hcz24_0, hcz24_1, hcz24_2, hcz24_3, hcz24_4, hcz24_5, hcz24_6, hfz24_0, hfz24_1, hfz24_2, hfz24_3, hfz24_4, hfz24_5, hfz24_6⟩ := czf7 BK0.out
       have p372 : 0 ≤ (x11_3 : Int) := of_decide_eq_true aq2
       have q372 : x11_3 < (l1.length : Int) := of_decide_eq_true aq2
       obtain ⟨ad372, e372, hx372_0⟩ := Kd.at_bool HR1.out x11_3 p372 q372
       (try rw [← Nbq11.out] at hx372_0)
       (try rw [← Nbq21.out] at hx372_0)
       obtain rfl : ad368 = ad372 := (by injection e372)
       replace hx372_0 := (HB.out.cell (World.block_lt_of_cell? w _ hx372_0)).trans hx372_0
       replace p372 := eq_true p372
       replace q372 := eq_true q372
       go_wp2
       go_roundg k3
       case measure => have := HK1.out; have := HK2.out; have := HK3.out; omega
       case rel => exact ⟨(wrap64 (x10_3 + 1)), (wrap64 (x11_3 + 1)), aq5, aq5, H', ⟨aq46⟩, ⟨aq12⟩, ⟨aq8⟩, ⟨aq3⟩⟩
/-! ### palingref18_Code: function 14 -/
mutual
def palingref18_Code.l0 : Nat → List (S28) → Option ((List (S28)))
  | 0, _ => none
  | k + 1, x0 => (palingref18_Needless.f k x0).bind fun t379 => (palingref18_Code.l1 k x0 t379 false false 0)
def palingref18_Code.l1 : Nat → List (S28) → List Bool → Bool → Bool → Int → Option ((List (S28)))
  | 0, _, _, _, _, _ => none
  | k + 1, x0, x3, x4, x5, x6 => if x6 < (x3.length : Int) then (if x4 = true then (if x5 = true then (palingref18_Code.l1 k x0 x3 true true (wrap64 (x6 + 1))) else (if 0 ≤ x6 then (palingref18_Code.l1 k x0 x3 true (!(rdOf false x3 x6)) (wrap64 (x6 + 1))) else (none))) else (if 0 ≤ x6 then (if x5 = true then (palingref18_Code.l1 k x0 x3 (rdOf false x3 x6) true (wrap64 (x6 + 1))) else (palingref18_Code.l1 k x0 x3 (rdOf false x3 x6) (!(rdOf false x3 x6)) (wrap64 (x6 + 1)))) else (none))) else (if x4 = true then (if x5 = true then ((palingref18_Less.f k x0 x3).bind fun t385 => (palingref18_Code.l0 k t385)) else (some (([(⟨13, 0, 0, 0, 0, 0, 0⟩ : S28)] : List (S28))))) else (some x0))
end
def palingref18_Code.f (k : Nat) (l0 : List (S28)) : Option ((List (S28))) := palingref18_Code.l0 k l0
theorem palingref18_Code.mono_l : ∀ k, (∀ y0, LeO (palingref18_Code.l0 k y0) (palingref18_Code.l0 (k + 1) y0)) ∧ (∀ y0 y1 y2 y3 y4, LeO (palingref18_Code.l1 k y0 y1 y2 y3 y4) (palingref18_Code.l1 (k + 1) y0 y1 y2 y3 y4))
  | 0 => ⟨fun _ r h => by simp [palingref18_Code.l0] at h, fun _ _ _ _ _ r h => by simp [palingref18_Code.l1] at h⟩
  | k + 1 => by
    obtain ⟨ih0, ih1⟩ := palingref18_Code.mono_l k
    refine ⟨?_, ?_⟩ <;> intros <;> (first | unfold palingref18_Code.l0 | unfold palingref18_Code.l1) <;> repeat' (first | (with_reducible first | exact ih0 _ | exact ih1 _ _ _ _ _ | exact palingref18_Less.mono _ _ _ | exact palingref18_Needless.mono _ _ | exact LeO.refl _ | exact LeO.none _ | refine LeO.ite ?_ ?_ | refine LeO.bind ?_ (fun _ => ?_)) | exact ih0 _ | exact ih1 _ _ _ _ _ | exact palingref18_Less.mono _ _ _ | exact palingref18_Needless.mono _ _ | exact LeO.none _ | refine LeO.ite ?_ ?_ | refine LeO.bind ?_ (fun _ => ?_))
theorem palingref18_Code.mono : ∀ a0 k, LeO (palingref18_Code.f k a0) (palingref18_Code.f (k + 1) a0) := by
 intro a0 k
 obtain ⟨ih0, ih1⟩ := palingref18_Code.mono_l k
 unfold palingref18_Code.f
 repeat' (first | (with_reducible first | exact ih0 _ | exact ih1 _ _ _ _ _ | exact palingref18_Less.mono _ _ _ | exact palingref18_Needless.mono _ _ | exact LeO.refl _ | exact LeO.none _ | refine LeO.ite ?_ ?_ | refine LeO.bind ?_ (fun _ => ?_)) | exact ih0 _ | exact ih1 _ _ _ _ _ | exact palingref18_Less.mono _ _ _ | exact palingref18_Needless.mono _ _ | exact LeO.none _ | refine LeO.ite ?_ ?_ | refine LeO.bind ?_ (fun _ => ?_))
set_option maxHeartbeats 8000000 in
set_option maxRecDepth 100000 in
theorem palingref18_Code.calls (k : Nat) (P0_ : Nat → Prop) (A0 : Option Addr) (c0 : Nat) (l0 : List (S28)) (r : List (S28)) (w : World) (hs0 : Kd.V k28 28 w w.heap.size (fun k_ => P0_ k_) (.slice A0 l0.length c0) l0) (h : palingref18_Code.f k l0 = some r) :
    Calls Tryd.prog 14 #[.slice A0 l0.length c0] w fun e w' => ∃ v0_ : Value, e = .returned (v0_) ∧ Kd.V k28 28 w' w.heap.size (fun k_ => (P0_ k_ ∨ w.heap.size ≤ k_)) v0_ r ∧ Below w.heap.size w w' := by
 have hu28 := Tryd.underlying28
 have HO0 := Aside0.mk (show Kd.V k28 28 w w.heap.size (fun k_ => (P0_ k_ ∨ w.heap.size ≤ k_)) (.slice A0 l0.length c0) l0 from Kd.V_mono hs0 (fun k_ hk => .inl hk))
 have HB := Aside0.mk (Below.refl w.heap.size w)
 have H : (palingref18_Code.l0 k l0) = some r := h
 clear h
 have H' := Aside0.mk H
 clear H
 go_enter Tryd.func14, Tryd.ntmps14
 go_wp2
 go_loopg [0] k (fun kq v0 w' => ∃ (x0_1 : List (S28)), Aside0 (palingref18_Code.l0 kq x0_1 = some r) ∧ Aside0 (kq ≤ k) ∧ Aside0 (Kd.V k28 28 w' w.heap.size (fun k_ => (P0_ k_ ∨ w.heap.size ≤ k_)) v0 x0_1) ∧ Aside0 (Below w.heap.size w w'))
 case atStart => exact ⟨(l0), H', ⟨Nat.le_refl _⟩, ⟨by (with_reducible repeat (first | apply Kd.V_alloc | apply Kd.V_drewN | apply Kd.V_drew)); exact HO0.out⟩, ⟨aq0⟩⟩
 case round =>
  clear H'
  obtain ⟨x0_1, HA, HK1, HO_0, HB⟩ := hrel
  cases gk with
  | zero => exact absurd HA.out (by simp [palingref18_Code.l0])
  | succ k1 =>
   have H := HA.out
   clear HA
   simp only [palingref18_Code.l0] at H
   obtain ⟨t379, A2, H⟩ := bS_ H
   have H' := Aside0.mk H
   clear H
   obtain ⟨Ao3, co3, eo3⟩ := Kd.V_slice HO_0.out
   subst eo3
   go_wp2_with (first | ((with_reducible refine gate_callee (f := 11) rfl ?_); refine goesL_ (some 8) rfl rfl Tryd.func11 (by kernel_rfl) rfl #[.slice Ao3 x0_1.length co3] rfl aq4 ?_; (with_reducible refine (palingref18_Needless.calls k1 _ _ x0_1 t379 _ ?side1 ?side2 A2.out).mono ?_); (case side1 => repeat (first | exact (Kd.V_reads' HO_0.out).2.2 | (with_reducible refine Kd.C_alloc ?_ _) | (with_reducible refine Kd.C_drewN ?_ _) | (with_reducible refine Kd.C_drew ?_))); (case side2 => exact (Kd.V_reads' HO_0.out).2.1); rintro e w4 ⟨v380, rfl, ho0, hb⟩; refine ⟨_, rfl, ?_⟩; replace HO_0 := Aside0.mk (Kd.V_elder' aq24 (Kd.R_base ho0) hb); have HO381 := Aside0.mk (Kd.R_lower (Kd.R_newM (M := fun k_ => (w.heap.size ≤ k_)) ho0 (below_size aq0) (fun k_ h_ => h_)) (below_size aq0)); replace HB := Aside0.mk (below_step aq0 hb); (try clear hb); (try clear hb2); (try clear hk); (try clear hi); (try clear ho0)))
   go_loopg [4, 5, 6] k1 (fun kq v4 v5 v6 w' => ∃ (x4_2 : Bool) (x5_2 : Bool) (x6_2 : Int), v4 = .bool x4_2 ∧ v5 = .bool x5_2 ∧ v6 = .int .i64 x6_2 ∧ Aside0 (palingref18_Code.l1 kq x0_1 t379 x4_2 x5_2 x6_2 = some r) ∧ Aside0 (kq ≤ k1) ∧ Aside0 (Kd.V k28 28 w' w.heap.size (fun k_ => (P0_ k_ ∨ w.heap.size ≤ k_) ∧ some k_ ≠ (v380 : Value).ownBlock) (.slice Ao3 x0_1.length co3) x0_1) ∧ Aside0 (Kd.R Kd.bool 4 w' w.heap.size (fun k_ => (w.heap.size ≤ k_)) v380 t379) ∧ Aside0 (Below w.heap.size w w'))
   case atStart => exact ⟨(false), (false), (0), aq5, aq5, aq5, H', ⟨Nat.le_refl _⟩, ⟨aq24⟩, ⟨by (with_reducible repeat (first | apply Kd.R_alloc | apply Kd.R_drewN | apply Kd.R_drew)); exact Kd.R_mono HO381.out (fun _ hk => hk.1)⟩, ⟨aq0⟩⟩
   case round =>
    clear H'
    obtain ⟨x4_2, x5_2, x6_2, rfl, rfl, rfl, HA, HK2, HO_0, HO_3, HB⟩ := hrel
    cases gk with
    | zero => exact absurd HA.out (by simp [palingref18_Code.l1])
    | succ k2 =>
     have H := HA.out
     clear HA
     simp only [palingref18_Code.l1] at H
     by_cases c5 : x6_2 < (t379.length : Int)
     rotate_left
     ·rw [if_neg c5] at H
      have c5b0 : decide (x6_2 < (t379.length : Int)) = false := decide_eq_false c5
      clear c5
      by_cases c15 : x4_2 = true
      rotate_left
      ·replace c15 := Bool.eq_false_iff.mpr c15
       subst c15
       rw [if_neg nf_] at H
       obtain rfl := Option.some.inj H
       obtain ⟨Ao23, co23, eo23⟩ := Kd.R_slice HO_3.out
       subst eo23
       go_wp2
       go_ret
       exact ⟨_, aq11, by (with_reducible repeat (first | apply Kd.V_alloc | apply Kd.V_drewN | apply Kd.V_drew)); exact Kd.V_mono HO_0.out (fun _ hk => hk.1), aq0⟩
      subst c15
      rw [if_pos rfl] at H
      by_cases c16 : x5_2 = true
      ·subst c16
       rw [if_pos rfl] at H
       obtain ⟨t385, A17, H⟩ := bS_ H
       have H' := Aside0.mk H
       clear H
       obtain ⟨Ao18, co18, eo18⟩ := Kd.R_slice HO_3.out
       subst eo18
       go_wp2_with (first | ((with_reducible refine gate_callee (f := 18) rfl ?_); refine goesL_ (some 39) rfl rfl Tryd.func18 (by kernel_rfl) rfl #[.slice Ao3 x0_1.length co3, .slice Ao18 t379.length co18] rfl aq4 ?_; (with_reducible refine (palingref18_Less.calls k2 _ _ x0_1 _ _ t379 t385 _ ?side1 ?side2 ?side3 ?side4 A17.out).mono ?_); (case side1 => repeat (first | exact (Kd.V_reads' HO_0.out).2.2 | (with_reducible refine Kd.C_alloc ?_ _) | (with_reducible refine Kd.C_drewN ?_ _) | (with_reducible refine Kd.C_drew ?_))); (case side2 => exact (Kd.V_reads' HO_0.out).2.1); (case side3 => repeat (first | exact (Kd.R_reads' HO_3.out).2.2 | (with_reducible refine Kd.C_alloc ?_ _) | (with_reducible refine Kd.C_drewN ?_ _) | (with_reducible refine Kd.C_drew ?_))); (case side4 => exact (Kd.R_reads' HO_3.out).2.1); rintro e w19 ⟨v386, rfl, ho0, hb⟩; refine ⟨_, rfl, ?_⟩; replace HO_0 := Aside0.mk (Kd.V_elder' aq24 (Kd.R_base ho0) hb); replace HO_3 := Aside0.mk (Kd.R_below aq10 hb); have HO387 := Aside0.mk (Kd.R_lower (Kd.R_newM (M := fun k_ => (w.heap.size ≤ k_)) ho0 (below_size aq0) (fun k_ h_ => h_)) (below_size aq0)); replace HB := Aside0.mk (below_step aq0 hb); (try clear hb); (try clear hb2); (try clear hk); (try clear hi); (try clear ho0)))
       go_roundg k2
       case measure => have := HK1.out; have := HK2.out; omega
       case rel => exact ⟨(t385), H', ⟨aq39⟩, ⟨Kd.V_mono (Kd.R_V (by (with_reducible repeat (first | apply Kd.R_alloc | apply Kd.R_drewN | apply Kd.R_drew)); exact Kd.R_mono HO387.out (fun _ hk => hk.1))) (fun k_ hk => by first | exact ⟨(.inr (hk.1)), hk.2⟩ | exact (.inr (hk)))⟩, ⟨aq0⟩⟩
      replace c16 := Bool.eq_false_iff.mpr c16
      subst c16
      rw [if_neg nf_] at H
      obtain ⟨y388, hy_⟩ : ∃ y_ : List (S28), y_ = (([(⟨13, 0, 0, 0, 0, 0, 0⟩ : S28)] : List (S28))) := ⟨_, rfl⟩
      replace H : (some y388) = some r := aq1
      have Ny388 := Aside0.mk hy_
      clear hy_
      obtain rfl := Option.some.inj H
      obtain ⟨Ao20, co20, eo20⟩ := Kd.R_slice HO_3.out
      subst eo20
      go_wp2_with (first | ((with_reducible refine gate_dst (N := 36) rfl ?_); refine Kd.R_lit k28 _ 28 ?hg (N := 36) ?hd (xs := ([(⟨13, 0, 0, 0, 0, 0, 0⟩ : S28)] : List (S28))) (inner := [.int .i64 13, .int .i64 0, .int .i64 0, .int .i64 0, .int .i64 0, .int .i64 0, .int .i64 0]) (ok := fun _ => True) (okp := fun _ => True) ?hr ?hp (fun _ hk => hk) trivial (Below.refl _ _) (Nat.le_refl _) (by simp) ?_; (case hd => rfl); (case hg => rfl); (case hr => first | (go_simp; done) | (go_simp; rfl)); (case hp => exact (Reps.c7 (show Kd.M k28 _ _ _ (⟨13, 0, 0, 0, 0, 0, 0⟩ : S28) [.int .i64 13, .int .i64 0, .int .i64 0, .int .i64 0, .int .i64 0, .int .i64 0, .int .i64 0] from (k28_mkM _ _ _ (⟨13, 0, 0, 0, 0, 0, 0⟩ : S28) )) (Reps.none _ _))); intro v389 w21 ho22 hb hg_ hnew_; clear hg_ hnew_; (first | rw [← Ny388.out] at ho22 | (simp only [Int.reduceToNat] at ho22; rw [← Ny388.out] at ho22)); replace HO_0 := Aside0.mk (Kd.V_elder' aq24 (Kd.R_base ho22) hb); replace HO_3 := Aside0.mk (Kd.R_below aq10 hb); have HO390 := Aside0.mk (Kd.R_lower (Kd.R_newM (M := fun k_ => (w.heap.size ≤ k_)) ho22 (below_size aq0) (fun k_ h_ => h_)) (below_size aq0)); replace HB := Aside0.mk (below_step aq0 hb); clear hb ho22))
      go_ret
      exact ⟨_, aq11, Kd.V_mono (Kd.R_V (by (with_reducible repeat (first | apply Kd.R_alloc | apply Kd.R_drewN | apply Kd.R_drew)); exact Kd.R_mono HO390.out (fun _ hk => hk.1))) (fun k_ hk => by first | exact ⟨(.inr (hk.1)), hk.2⟩ | exact (.inr (hk))), aq0⟩
     rw [if_pos c5] at H
     have c5b0 : decide (x6_2 < (t379.length : Int)) = true := decide_eq_true c5
     clear c5
     by_cases c6 : x4_2 = true
     ·subst c6
      rw [if_pos rfl] at H
      by_cases c7 : x5_2 = true
      ·subst c7
       rw [if_pos rfl] at H
       have H' := Aside0.mk H
       clear H
       obtain ⟨Ao8, co8, eo8⟩ := Kd.R_slice HO_3.out
       subst eo8
       go_wp2
       go_roundg k2
       case measure => have := HK1.out; have := HK2.out; omega
       case rel => exact ⟨(true), (true), (wrap64 (x6_2 + 1)), aq5, aq5, aq5, H', ⟨aq39⟩, ⟨aq24⟩, ⟨aq10⟩, ⟨aq0⟩⟩
      replace c7 := Bool.eq_false_iff.mpr c7
      subst c7
      rw [if_neg nf_] at H
      by_cases c9 : 0 ≤ x6_2
      rotate_left
      ·rw [if_neg c9] at H
       exact absurd H (by simp)
      rw [if_pos c9] at H
      have c9b0 : decide (0 ≤ x6_2) = true := decide_eq_true c9
      clear c9
      have H' := Aside0.mk H
      clear H
      obtain ⟨Ao10, co10, eo10⟩ := Kd.R_slice HO_3.out
      subst eo10
      have p382 : 0 ≤ (x6_2 : Int) := of_decide_eq_true aq2
      have q382 : x6_2 < (t379.length : Int) := of_decide_eq_true aq2
      obtain ⟨ad382, e382, hx382_0⟩ := Kd.at_bool (Kd.R_reads' HO_3.out).2.2 x6_2 p382 q382
      cases e382
      replace p382 := eq_true p382
      replace q382 := eq_true q382
      go_wp2
      go_roundg k2
      case measure => have := HK1.out; have := HK2.out; omega
      case rel => exact ⟨(true), (!(rdOf false t379 x6_2)), (wrap64 (x6_2 + 1)), aq5, aq5, aq5, H', ⟨aq39⟩, ⟨aq24⟩, ⟨aq10⟩, ⟨aq0⟩⟩
     replace c6 := Bool.eq_false_iff.mpr c6
     subst c6
     rw [if_neg nf_] at H
     by_cases c11 : 0 ≤ x6_2
     rotate_left
     ·rw [if_neg c11] at H
      exact absurd H (by simp)
     rw [if_pos c11] at H
     have c11b0 : decide (0 ≤ x6_2) = true := decide_eq_true c11
     clear c11
     by_cases c12 : x5_2 = true
     ·subst c12
      rw [if_pos rfl] at H
      have H' := Aside0.mk H
      clear H
      obtain ⟨Ao13, co13, eo13⟩ := Kd.R_slice HO_3.out
      subst eo13
      have p383 : 0 ≤ (x6_2 : Int) := of_decide_eq_true aq2
      have q383 : x6_2 < (t379.length : Int) := of_decide_eq_true aq2
      obtain ⟨ad383, e383, hx383_0⟩ := Kd.at_bool (Kd.R_reads' HO_3.out).2.2 x6_2 p383 q383
      cases e383
      replace p383 := eq_true p383
      replace q383 := eq_true q383
      go_wp2
      go_roundg k2
      case measure => have := HK1.out; have := HK2.out; omega
      case rel => exact ⟨(rdOf false t379 x6_2), (true), (wrap64 (x6_2 + 1)), aq5, aq5, aq5, H', ⟨aq39⟩, ⟨aq24⟩, ⟨aq10⟩, ⟨aq0⟩⟩
     replace c12 := Bool.eq_false_iff.mpr c12
     subst c12
     rw [if_neg nf_] at H
     have H' := Aside0.mk H
     clear H
     obtain ⟨Ao14, co14, eo14⟩ := Kd.R_slice HO_3.out
     subst eo14
     have p383 : 0 ≤ (x6_2 : Int) := of_decide_eq_true aq2
     have q383 : x6_2 < (t379.length : Int) := of_decide_eq_true aq2
     obtain ⟨ad383, e383, hx383_0⟩ := Kd.at_bool (Kd.R_reads' HO_3.out).2.2 x6_2 p383 q383
     cases e383
     replace p383 := eq_true p383
     replace q383 := eq_true q383
     have p384 : 0 ≤ (x6_2 : Int) := of_decide_eq_true aq2
     have q384 : x6_2 < (t379.length : Int) := of_decide_eq_true aq2
     obtain ⟨ad384, e384, hx384_0⟩ := Kd.at_bool (Kd.R_reads' HO_3.out).2.2 x6_2 p384 q384
     obtain rfl : ad383 = ad384 := (by injection e384)
     replace p384 := eq_true p384
     replace q384 := eq_true q384
     go_wp2
     go_roundg k2
     case measure => have := HK1.out; have := HK2.out; omega
     case rel => exact ⟨(rdOf false t379 x6_2), (!(rdOf false t379 x6_2)), (wrap64 (x6_2 + 1)), aq5, aq5, aq5, H', ⟨aq39⟩, ⟨aq24⟩, ⟨aq10⟩, ⟨aq0⟩⟩
end Go.Proofs.YtdopacgaklaaeaaDoor.PDeadTells
