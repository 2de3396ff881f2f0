-- Written by print2.py over the kit's printer. Not trusted: Lean checks it.
import Derived.Test.YtpbhfpbfmpocdaaDoorPSpillNonehqq
import Derived.Test.YtpbhfpbfmpocdaaDoorPSpillNonex0
import Derived.Test.YtpbhfpbfmpocdaaDoorPSpillNonehone11
namespace Go.Proofs.YtpbhfpbfmpocdaaDoor.PSpillNone
open Go.RowKit Go.Proofs.YtpbhfpbfmpocdaaDoorW.PrintWords Go.Proofs.YtpbhfpbfmpocdaaDoorW.PrintLast Go.Proofs.YtpbhfpbfmpocdaaDoorW.PrintMore
attribute [local go_sem] max2_int min2_int max_two min_two max_three min_three max_four min_four   -- for this text's walks alone
set_option linter.unusedVariables false
set_option linter.unusedSimpArgs false

/-! ### palingref11_Check: function 7 -/
mutual
def palingref11_Check.j0 : Nat → List (S48) → Int → Int → Bool → Option (Bool)
  | 0, _, _, _, _ => none
  | k + 1, x0, x1, x2, x17 => if x17 = true then (some false) else (palingref11_Check.l0 k x0 x1 x2 0)
def palingref11_Check.l0 : Nat → List (S48) → Int → Int → Int → Option (Bool)
  | 0, _, _, _, _ => none
  | k + 1, x0, x1, x2, x7 => if x7 < (x0.length : Int) then (if 0 ≤ x7 then ((palingref11_one.f k ((rd_T48 x0 x7).f0) ((rd_T48 x0 x7).f1) ((rd_T48 x0 x7).f2) ((rd_T48 x0 x7).f3) ((rd_T48 x0 x7).f4) ((rd_T48 x0 x7).f5) ((rd_T48 x0 x7).f6) (x0.length : Int) x1 x2).bind fun t150 => (if t150 = true then (palingref11_Check.l0 k x0 x1 x2 (wrap64 (x7 + 1))) else (some false))) else (none)) else (if 0 ≤ (wrap64 ((x0.length : Int) - 1)) then (if (wrap64 ((x0.length : Int) - 1)) < (x0.length : Int) then (if ((rd_T48 x0 (wrap64 ((x0.length : Int) - 1))).f0) = 6 then (some true) else (if ((rd_T48 x0 (wrap64 ((x0.length : Int) - 1))).f0) = 12 then (some true) else (some (((rd_T48 x0 (wrap64 ((x0.length : Int) - 1))).f0) == 13)))) else (none)) else (none))
end
def palingref11_Check.f (k : Nat) (l0 : List (S48)) (a1 : Int) (a2 : Int) : Option (Bool) := if (l0.length : Int) < 1 then (palingref11_Check.j0 k l0 a1 a2 true) else (palingref11_Check.j0 k l0 a1 a2 (decide ((l0.length : Int) > 4096)))
theorem palingref11_Check.mono_l : ∀ k, (∀ y0 y1 y2 y3, LeO (palingref11_Check.j0 k y0 y1 y2 y3) (palingref11_Check.j0 (k + 1) y0 y1 y2 y3)) ∧ (∀ y0 y1 y2 y3, LeO (palingref11_Check.l0 k y0 y1 y2 y3) (palingref11_Check.l0 (k + 1) y0 y1 y2 y3))
  | 0 => ⟨fun _ _ _ _ r h => by simp [palingref11_Check.j0] at h, fun _ _ _ _ r h => by simp [palingref11_Check.l0] at h⟩
  | k + 1 => by
    obtain ⟨ih0, ih1⟩ := palingref11_Check.mono_l k
    refine ⟨?_, ?_⟩ <;> intros <;> (first | unfold palingref11_Check.j0 | unfold palingref11_Check.l0) <;> repeat' (first | (with_reducible first | exact ih0 _ _ _ _ | exact ih1 _ _ _ _ | exact palingref11_one.mono _ _ _ _ _ _ _ _ _ _ _ | exact LeO.refl _ | exact LeO.none _ | refine LeO.ite ?_ ?_ | refine LeO.bind ?_ (fun _ => ?_)) | exact ih0 _ _ _ _ | exact ih1 _ _ _ _ | exact palingref11_one.mono _ _ _ _ _ _ _ _ _ _ _ | exact LeO.none _ | refine LeO.ite ?_ ?_ | refine LeO.bind ?_ (fun _ => ?_))
theorem palingref11_Check.mono : ∀ a0 a1 a2 k, LeO (palingref11_Check.f k a0 a1 a2) (palingref11_Check.f (k + 1) a0 a1 a2) := by
 intro a0 a1 a2 k
 obtain ⟨ih0, ih1⟩ := palingref11_Check.mono_l k
 unfold palingref11_Check.f
 repeat' (first | (with_reducible first | exact ih0 _ _ _ _ | exact ih1 _ _ _ _ | exact palingref11_one.mono _ _ _ _ _ _ _ _ _ _ _ | exact LeO.refl _ | exact LeO.none _ | refine LeO.ite ?_ ?_ | refine LeO.bind ?_ (fun _ => ?_)) | exact ih0 _ _ _ _ | exact ih1 _ _ _ _ | exact palingref11_one.mono _ _ _ _ _ _ _ _ _ _ _ | exact LeO.none _ | refine LeO.ite ?_ ?_ | refine LeO.bind ?_ (fun _ => ?_))
set_option maxHeartbeats 8000000 in
set_option maxRecDepth 100000 in
theorem palingref11_Check.calls (k : Nat) (A0 : Option Addr) (c0 : Nat) (l0 : List (S48)) (a1 : Int) (a2 : Int) (r : Bool) (w : World) (hr0 : Kd.C k48 w A0 l0.length l0) (hc0 : l0.length ≤ c0) (h : palingref11_Check.f k l0 a1 a2 = some r) :
    Calls Tryd.prog 7 #[.slice A0 l0.length c0, .int .i64 a1, .int .i64 a2] w fun e w' => e = .returned (.bool r) ∧ Below w.heap.size w w' := by
 have hu48 := Tryd.underlying48
 have HR0 := Aside0.mk hr0
 have HC0 := Aside0.mk hc0
 clear hr0 hc0
 have HB := Aside0.mk (Below.refl w.heap.size w)
 have H : (if (l0.length : Int) < 1 then (palingref11_Check.j0 k l0 a1 a2 true) else (palingref11_Check.j0 k l0 a1 a2 (decide ((l0.length : Int) > 4096)))) = some r := h
 clear h
 have HC4 := Aside0.mk H
 clear H
 go_enter Tryd.func7, Tryd.ntmps7
 go_upto_region 1 with (fail)
 go_cut [17] (fun v17 wc => ∃ (kq : Nat) (x17_3 : Bool), v17 = .bool x17_3 ∧ Aside0 (palingref11_Check.j0 kq l0 a1 a2 x17_3 = some r) ∧ Aside0 (kq ≤ k) ∧ Aside0 (Below w.heap.size w wc))
 case first =>
  have H := HC4.out
  clear HC4
  by_cases c5 : (l0.length : Int) < 1
  ·rw [if_pos c5] at H
   have c5b0 : decide ((l0.length : Int) < 1) = true := decide_eq_true c5
   have c5b1 : decide (l0.length < 1) = true := decide_eq_true (by omega)
   clear c5
   (first | rw [c5b0] | (simp only [i64_w, i32_w]; rw [c5b0]) | skip)
   have H' := Aside0.mk H
   clear H
   go_wp2
   go_meet
   case rel => exact ⟨_, (true), aq7, H', ⟨aq50⟩, ⟨aq0⟩⟩
  rw [if_neg c5] at H
  have c5b0 : decide ((l0.length : Int) < 1) = false := decide_eq_false c5
  have c5b1 : decide (l0.length < 1) = false := decide_eq_false (by omega)
  clear c5
  (first | rw [c5b0] | (simp only [i64_w, i32_w]; rw [c5b0]) | skip)
  have H' := Aside0.mk H
  clear H
  go_wp2
  go_meet
  case rel => exact ⟨_, (decide ((l0.length : Int) > 4096)), aq7, H', ⟨aq50⟩, ⟨aq0⟩⟩
 case rest =>
  clear HC4
  obtain ⟨kq, x17_3, rfl, HA, HJ3, HB⟩ := hcut
  cases kq with
  | zero => exact absurd HA.out (by simp [palingref11_Check.j0])
  | succ kj3 =>
   have H := HA.out
   clear HA
   simp only [palingref11_Check.j0] at H
   by_cases c6 : x17_3 = true
   ·subst c6
    rw [if_pos rfl] at H
    obtain rfl := Option.some.inj H
    go_wp2
    go_ret
    exact ⟨aq13, aq0⟩
   replace c6 := Bool.eq_false_iff.mpr c6
   subst c6
   rw [if_neg nf_] at H
   have H' := Aside0.mk H
   clear H
   go_wp2
   go_loopg [7] kj3 (fun kq v7 w' => ∃ (x7_2 : Int), v7 = .int .i64 x7_2 ∧ Aside0 (palingref11_Check.l0 kq l0 a1 a2 x7_2 = some r) ∧ Aside0 (kq ≤ kj3) ∧ Aside0 (Below w.heap.size w w'))
   case atStart => exact ⟨(0), aq7, H', ⟨Nat.le_refl _⟩, ⟨aq0⟩⟩
   case round =>
    clear H'
    obtain ⟨x7_2, rfl, HA, HK2, HB⟩ := hrel
    cases gk with
    | zero => exact absurd HA.out (by simp [palingref11_Check.l0])
    | succ k2 =>
     have H := HA.out
     clear HA
     simp only [palingref11_Check.l0] at H
     by_cases c7 : x7_2 < (l0.length : Int)
     ·rw [if_pos c7] at H
      have c7b0 : decide (x7_2 < (l0.length : Int)) = true := decide_eq_true c7
      clear c7
      by_cases c8 : 0 ≤ x7_2
      rotate_left
      ·rw [if_neg c8] at H
       exact absurd H (by simp)
      rw [if_pos c8] at H
      have c8b0 : decide (0 ≤ x7_2) = true := decide_eq_true c8
      clear c8
      obtain ⟨t150, A9, H⟩ := bS_ H
      by_cases c10 : t150 = true
      rotate_left
      ·replace c10 := Bool.eq_false_iff.mpr c10
       subst c10
       rw [if_neg nf_] at H
       obtain rfl := Option.some.inj H
       have p149 : 0 ≤ (x7_2 : Int) := of_decide_eq_true aq2
       have q149 : x7_2 < (l0.length : Int) := of_decide_eq_true aq2
       obtain ⟨ad149, e149, hx149_0, hx149_1, hx149_2, hx149_3, hx149_4, hx149_5, hx149_6⟩ := at_T48 HR0.out x7_2 p149 q149
       cases e149
       replace hx149_0 := (HB.out.cell (World.block_lt_of_cell? w _ hx149_0)).trans hx149_0
       replace hx149_1 := (HB.out.cell (World.block_lt_of_cell? w _ hx149_1)).trans hx149_1
       replace hx149_2 := (HB.out.cell (World.block_lt_of_cell? w _ hx149_2)).trans hx149_2
       replace hx149_3 := (HB.out.cell (World.block_lt_of_cell? w _ hx149_3)).trans hx149_3
       replace hx149_4 := (HB.out.cell (World.block_lt_of_cell? w _ hx149_4)).trans hx149_4
       replace hx149_5 := (HB.out.cell (World.block_lt_of_cell? w _ hx149_5)).trans hx149_5
       replace hx149_6 := (HB.out.cell (World.block_lt_of_cell? w _ hx149_6)).trans hx149_6
       replace p149 := eq_true p149
       replace q149 := eq_true q149
       go_wp2_with (first | ((with_reducible refine gate_callee (f := 17) rfl ?_); refine goesL_ (some 32) rfl rfl Tryd.func17 (by kernel_rfl) rfl #[.agg #[.int .i64 ((rd_T48 l0 x7_2).f0), .int .i64 ((rd_T48 l0 x7_2).f1), .int .i64 ((rd_T48 l0 x7_2).f2), .int .i64 ((rd_T48 l0 x7_2).f3), .int .i64 ((rd_T48 l0 x7_2).f4), .int .i64 ((rd_T48 l0 x7_2).f5), .int .i64 ((rd_T48 l0 x7_2).f6)], .int .i64 (l0.length : Int), .int .i64 a1, .int .i64 a2] rfl aq8 ?_; (with_reducible refine (palingref11_one.calls k2 ((rd_T48 l0 x7_2).f0) ((rd_T48 l0 x7_2).f1) ((rd_T48 l0 x7_2).f2) ((rd_T48 l0 x7_2).f3) ((rd_T48 l0 x7_2).f4) ((rd_T48 l0 x7_2).f5) ((rd_T48 l0 x7_2).f6) (l0.length : Int) a1 a2 false _ A9.out).mono ?_); rintro e w12 ⟨rfl, hb⟩; refine ⟨_, rfl, ?_⟩; replace HB := Aside0.mk (below_step aq0 hb); (try clear hb); (try clear hb2); (try clear hk); (try clear hi)))
       go_ret
       exact ⟨aq13, aq0⟩
      subst c10
      rw [if_pos rfl] at H
      have H' := Aside0.mk H
      clear H
      have p149 : 0 ≤ (x7_2 : Int) := of_decide_eq_true aq2
      have q149 : x7_2 < (l0.length : Int) := of_decide_eq_true aq2
      obtain ⟨ad149, e149, hx149_0, hx149_1, hx149_2, hx149_3, hx149_4, hx149_5, hx149_6⟩ := at_T48 HR0.out x7_2 p149 q149
      cases e149
      replace hx149_0 := (HB.out.cell (World.block_lt_of_cell? w _ hx149_0)).trans hx149_0
      replace hx149_1 := (HB.out.cell (World.block_lt_of_cell? w _ hx149_1)).trans hx149_1
      replace hx149_2 := (HB.out.cell (World.block_lt_of_cell? w _ hx149_2)).trans hx149_2
      replace hx149_3 := (HB.out.cell (World.block_lt_of_cell? w _ hx149_3)).trans hx149_3
      replace hx149_4 := (HB.out.cell (World.block_lt_of_cell? w _ hx149_4)).trans hx149_4
      replace hx149_5 := (HB.out.cell (World.block_lt_of_cell? w _ hx149_5)).trans hx149_5
      replace hx149_6 := (HB.out.cell (World.block_lt_of_cell? w _ hx149_6)).trans hx149_6
      replace p149 := eq_true p149
      replace q149 := eq_true q149
      go_wp2_with (first | ((with_reducible refine gate_callee (f := 17) rfl ?_); refine goesL_ (some 32) rfl rfl Tryd.func17 (by kernel_rfl) rfl #[.agg #[.int .i64 ((rd_T48 l0 x7_2).f0), .int .i64 ((rd_T48 l0 x7_2).f1), .int .i64 ((rd_T48 l0 x7_2).f2), .int .i64 ((rd_T48 l0 x7_2).f3), .int .i64 ((rd_T48 l0 x7_2).f4), .int .i64 ((rd_T48 l0 x7_2).f5), .int .i64 ((rd_T48 l0 x7_2).f6)], .int .i64 (l0.length : Int), .int .i64 a1, .int .i64 a2] rfl aq8 ?_; (with_reducible refine (palingref11_one.calls k2 ((rd_T48 l0 x7_2).f0) ((rd_T48 l0 x7_2).f1) ((rd_T48 l0 x7_2).f2) ((rd_T48 l0 x7_2).f3) ((rd_T48 l0 x7_2).f4) ((rd_T48 l0 x7_2).f5) ((rd_T48 l0 x7_2).f6) (l0.length : Int) a1 a2 true _ A9.out).mono ?_); rintro e w11 ⟨rfl, hb⟩; refine ⟨_, rfl, ?_⟩; replace HB := Aside0.mk (below_step aq0 hb); (try clear hb); (try clear hb2); (try clear hk); (try clear hi)))
      go_roundg k2
      case measure => have := HJ3.out; have := HK2.out; omega
      case rel => exact ⟨(wrap64 (x7_2 + 1)), aq7, H', ⟨by have := HJ3.out; have := HK2.out; omega⟩, ⟨aq0⟩⟩
     rw [if_neg c7] at H
     have c7b0 : decide (x7_2 < (l0.length : Int)) = false := decide_eq_false c7
     clear c7
     obtain ⟨ji13, hji13⟩ : ∃ j_ : Int, (wrap64 ((l0.length : Int) - 1)) = j_ := ⟨_, rfl⟩
     replace H : (if 0 ≤ (ji13) then (if (ji13) < (l0.length : Int) then (if ((rd_T48 l0 (ji13)).f0) = 6 then (some true) else (if ((rd_T48 l0 (ji13)).f0) = 12 then (some true) else (some (((rd_T48 l0 (ji13)).f0) == 13)))) else (none)) else (none)) = some r := by first | (rw [hji13] at H; exact H) | (simp only [hji13] at H ⊢; exact H)
     have hji13w : (IntKind.i64.wrap ((l0.length : Int) - 1)) = ji13 := (i64_w _).trans hji13
     by_cases c14 : 0 ≤ (ji13)
     rotate_left
     ·rw [if_neg c14] at H
      exact absurd H (by simp)
     rw [if_pos c14] at H
     have c14b0 : decide (0 ≤ (ji13)) = true := decide_eq_true c14
     clear c14
     by_cases c15 : (ji13) < (l0.length : Int)
     rotate_left
     ·rw [if_neg c15] at H
      exact absurd H (by simp)
     rw [if_pos c15] at H
     have c15b0 : decide ((ji13) < (l0.length : Int)) = true := decide_eq_true c15
     clear c15
     by_cases c16 : ((rd_T48 l0 (ji13)).f0) = 6
     ·rw [if_pos c16] at H
      have c16b0 : (((rd_T48 l0 (ji13)).f0) == 6) = true := beq_iff_eq.mpr c16
      have c16b1 : (((rd_T48 l0 (ji13)).f0) != 6) = false := bne_eq_false_iff_eq.mpr c16
      clear c16
      obtain rfl := Option.some.inj H
      have p151 : 0 ≤ ((ji13) : Int) := of_decide_eq_true aq2
      have q151 : (ji13) < (l0.length : Int) := of_decide_eq_true aq2
      obtain ⟨ad151, e151, hx151_0, hx151_1, hx151_2, hx151_3, hx151_4, hx151_5, hx151_6⟩ := at_T48 HR0.out (ji13) p151 q151
      cases e151
      replace hx151_0 := (HB.out.cell (World.block_lt_of_cell? w _ hx151_0)).trans hx151_0
      replace hx151_1 := (HB.out.cell (World.block_lt_of_cell? w _ hx151_1)).trans hx151_1
      replace hx151_2 := (HB.out.cell (World.block_lt_of_cell? w _ hx151_2)).trans hx151_2
      replace hx151_3 := (HB.out.cell (World.block_lt_of_cell? w _ hx151_3)).trans hx151_3
      replace hx151_4 := (HB.out.cell (World.block_lt_of_cell? w _ hx151_4)).trans hx151_4
      replace hx151_5 := (HB.out.cell (World.block_lt_of_cell? w _ hx151_5)).trans hx151_5
      replace hx151_6 := (HB.out.cell (World.block_lt_of_cell? w _ hx151_6)).trans hx151_6
      replace p151 := eq_true p151
      replace q151 := eq_true q151
      go_wp2
      go_ret
      exact ⟨aq52, aq0⟩
     rw [if_neg c16] at H
     have c16b0 : (((rd_T48 l0 (ji13)).f0) == 6) = false := beq_eq_false_iff_ne.mpr c16
     have c16b1 : (((rd_T48 l0 (ji13)).f0) != 6) = true := bne_iff_ne.mpr c16
     by_cases c17 : ((rd_T48 l0 (ji13)).f0) = 12
     rotate_left
     ·rw [if_neg c17] at H
      have c17b0 : (((rd_T48 l0 (ji13)).f0) == 12) = false := beq_eq_false_iff_ne.mpr c17
      have c17b1 : (((rd_T48 l0 (ji13)).f0) != 12) = true := bne_iff_ne.mpr c17
      obtain rfl := Option.some.inj H
      have p151 : 0 ≤ ((ji13) : Int) := of_decide_eq_true aq2
      have q151 : (ji13) < (l0.length : Int) := of_decide_eq_true aq2
      obtain ⟨ad151, e151, hx151_0, hx151_1, hx151_2, hx151_3, hx151_4, hx151_5, hx151_6⟩ := at_T48 HR0.out (ji13) p151 q151
      cases e151
      replace hx151_0 := (HB.out.cell (World.block_lt_of_cell? w _ hx151_0)).trans hx151_0
      replace hx151_1 := (HB.out.cell (World.block_lt_of_cell? w _ hx151_1)).trans hx151_1
      replace hx151_2 := (HB.out.cell (World.block_lt_of_cell? w _ hx151_2)).trans hx151_2
      replace hx151_3 := (HB.out.cell (World.block_lt_of_cell? w _ hx151_3)).trans hx151_3
      replace hx151_4 := (HB.out.cell (World.block_lt_of_cell? w _ hx151_4)).trans hx151_4
      replace hx151_5 := (HB.out.cell (World.block_lt_of_cell? w _ hx151_5)).trans hx151_5
      replace hx151_6 := (HB.out.cell (World.block_lt_of_cell? w _ hx151_6)).trans hx151_6
      replace p151 := eq_true p151
      replace q151 := eq_true q151
      go_wp2
      go_ret
      exact ⟨aq52, aq0⟩
     rw [if_pos c17] at H
     have c17b0 : (((rd_T48 l0 (ji13)).f0) == 12) = true := beq_iff_eq.mpr c17
     have c17b1 : (((rd_T48 l0 (ji13)).f0) != 12) = false := bne_eq_false_iff_eq.mpr c17
     clear c17
     obtain rfl := Option.some.inj H
     have p151 : 0 ≤ ((ji13) : Int) := of_decide_eq_true aq2
     have q151 : (ji13) < (l0.length : Int) := of_decide_eq_true aq2
     obtain ⟨ad151, e151, hx151_0, hx151_1, hx151_2, hx151_3, hx151_4, hx151_5, hx151_6⟩ := at_T48 HR0.out (ji13) p151 q151
     cases e151
     replace hx151_0 := (HB.out.cell (World.block_lt_of_cell? w _ hx151_0)).trans hx151_0
     replace hx151_1 := (HB.out.cell (World.block_lt_of_cell? w _ hx151_1)).trans hx151_1
     replace hx151_2 := (HB.out.cell (World.block_lt_of_cell? w _ hx151_2)).trans hx151_2
     replace hx151_3 := (HB.out.cell (World.block_lt_of_cell? w _ hx151_3)).trans hx151_3
     replace hx151_4 := (HB.out.cell (World.block_lt_of_cell? w _ hx151_4)).trans hx151_4
     replace hx151_5 := (HB.out.cell (World.block_lt_of_cell? w _ hx151_5)).trans hx151_5
     replace hx151_6 := (HB.out.cell (World.block_lt_of_cell? w _ hx151_6)).trans hx151_6
     replace p151 := eq_true p151
     replace q151 := eq_true q151
     go_wp2
     go_ret
     exact ⟨aq52, aq0⟩
/-! ### palingref21_order: function 18 -/
mutual
def palingref21_order.l0 : Nat → List (S54) → List (S54) → Int → Option ((List (S54)))
  | 0, _, _, _ => none
  | k + 1, x0, x3, x4 => if x4 < (x0.length : Int) then (palingref21_order.l1 k x0 x3 x4 0) else (some x3)
def palingref21_order.l1 : Nat → List (S54) → List (S54) → Int → Int → Option ((List (S54)))
  | 0, _, _, _, _ => none
  | k + 1, x0, x3, x4, x5 => if x5 < (x3.length : Int) then (if 0 ≤ x5 then (if 0 ≤ x4 then (if x4 < (x0.length : Int) then (if ((rd_T54 x3 x5).f1) < ((rd_T54 x0 x4).f1) then (palingref21_order.l1 k x0 x3 x4 (wrap64 (x5 + 1))) else (if ((rd_T54 x3 x5).f1) = ((rd_T54 x0 x4).f1) then (if ((rd_T54 x3 x5).f0) < ((rd_T54 x0 x4).f0) then (palingref21_order.l1 k x0 x3 x4 (wrap64 (x5 + 1))) else (if x5 ≤ (x3.length : Int) then ((some (x3.take (x5 : Int).toNat : List (S54))).bind fun y158 => (if ([] : List (S54)).length + y158.length < 5864062014805 then ((some (([] : List (S54)) ++ y158 : List (S54))).bind fun y162 => (if y162.length < 5864062014805 then ((some (y162 ++ [(⟨(rd_T54 x0 x4).f0, (rd_T54 x0 x4).f1, (rd_T54 x0 x4).f2⟩ : S54)] : List (S54))).bind fun y166 => ((some (x3.drop (x5 : Int).toNat : List (S54))).bind fun y169 => (if y166.length + y169.length < 5864062014805 then (palingref21_order.l0 k x0 (y166 ++ y169) (wrap64 (x4 + 1))) else (none)))) else (none))) else (none))) else (none))) else (if x5 ≤ (x3.length : Int) then ((some (x3.take (x5 : Int).toNat : List (S54))).bind fun y176 => (if ([] : List (S54)).length + y176.length < 5864062014805 then ((some (([] : List (S54)) ++ y176 : List (S54))).bind fun y180 => (if y180.length < 5864062014805 then ((some (y180 ++ [(⟨(rd_T54 x0 x4).f0, (rd_T54 x0 x4).f1, (rd_T54 x0 x4).f2⟩ : S54)] : List (S54))).bind fun y184 => ((some (x3.drop (x5 : Int).toNat : List (S54))).bind fun y187 => (if y184.length + y187.length < 5864062014805 then (palingref21_order.l0 k x0 (y184 ++ y187) (wrap64 (x4 + 1))) else (none)))) else (none))) else (none))) else (none)))) else (none)) else (none)) else (none)) else (if 0 ≤ x5 then (if x5 ≤ (x3.length : Int) then ((some (x3.take (x5 : Int).toNat : List (S54))).bind fun y194 => (if ([] : List (S54)).length + y194.length < 5864062014805 then ((some (([] : List (S54)) ++ y194 : List (S54))).bind fun y198 => (if 0 ≤ x4 then (if x4 < (x0.length : Int) then (if y198.length < 5864062014805 then ((some (y198 ++ [(⟨(rd_T54 x0 x4).f0, (rd_T54 x0 x4).f1, (rd_T54 x0 x4).f2⟩ : S54)] : List (S54))).bind fun y202 => ((some (x3.drop (x5 : Int).toNat : List (S54))).bind fun y205 => (if y202.length + y205.length < 5864062014805 then (palingref21_order.l0 k x0 (y202 ++ y205) (wrap64 (x4 + 1))) else (none)))) else (none)) else (none)) else (none))) else (none))) else (none)) else (none))
end
def palingref21_order.f (k : Nat) (l0 : List (S54)) : Option ((List (S54))) := palingref21_order.l0 k l0 ([] : List (S54)) 0
theorem palingref21_order.mono_l : ∀ k, (∀ y0 y1 y2, LeO (palingref21_order.l0 k y0 y1 y2) (palingref21_order.l0 (k + 1) y0 y1 y2)) ∧ (∀ y0 y1 y2 y3, LeO (palingref21_order.l1 k y0 y1 y2 y3) (palingref21_order.l1 (k + 1) y0 y1 y2 y3))
  | 0 => ⟨fun _ _ _ r h => by simp [palingref21_order.l0] at h, fun _ _ _ _ r h => by simp [palingref21_order.l1] at h⟩
  | k + 1 => by
    obtain ⟨ih0, ih1⟩ := palingref21_order.mono_l k
    refine ⟨?_, ?_⟩ <;> intros <;> (first | unfold palingref21_order.l0 | unfold palingref21_order.l1) <;> repeat' (first | (with_reducible first | exact ih0 _ _ _ | exact ih1 _ _ _ _ | exact LeO.refl _ | exact LeO.none _ | refine LeO.ite ?_ ?_ | refine LeO.bind ?_ (fun _ => ?_)) | exact ih0 _ _ _ | exact ih1 _ _ _ _ | exact LeO.none _ | refine LeO.ite ?_ ?_ | refine LeO.bind ?_ (fun _ => ?_))
theorem palingref21_order.mono : ∀ a0 k, LeO (palingref21_order.f k a0) (palingref21_order.f (k + 1) a0) := by
 intro a0 k
 obtain ⟨ih0, ih1⟩ := palingref21_order.mono_l k
 unfold palingref21_order.f
 repeat' (first | (with_reducible first | exact ih0 _ _ _ | exact ih1 _ _ _ _ | exact LeO.refl _ | exact LeO.none _ | refine LeO.ite ?_ ?_ | refine LeO.bind ?_ (fun _ => ?_)) | exact ih0 _ _ _ | exact ih1 _ _ _ _ | exact LeO.none _ | refine LeO.ite ?_ ?_ | refine LeO.bind ?_ (fun _ => ?_))
set_option maxHeartbeats 8000000 in
set_option maxRecDepth 100000 in
theorem palingref21_order.calls (k : Nat) (A0 : Option Addr) (c0 : Nat) (l0 : List (S54)) (r : List (S54)) (w : World) (hr0 : Kd.C k54 w A0 l0.length l0) (hc0 : l0.length ≤ c0) (h : palingref21_order.f k l0 = some r) :
    Calls Tryd.prog 18 #[.slice A0 l0.length c0] w fun e w' => ∃ v0_ : Value, e = .returned (v0_) ∧ Kd.R k54 54 w' w.heap.size (fun _ => True) v0_ r ∧ Below w.heap.size w w' := by
 have hu54 := Tryd.underlying54
 have HR0 := Aside0.mk hr0
 have HC0 := Aside0.mk hc0
 clear hr0 hc0
 have HB := Aside0.mk (Below.refl w.heap.size w)
 have H : (palingref21_order.l0 k l0 ([] : List (S54)) 0) = some r := h
 clear h
 have H' := Aside0.mk H
 clear H
 go_enter Tryd.func18, Tryd.ntmps18
 go_wp2
 repeat (go_quiet (fail); try go_wp2)
 go_loopg [3, 4] k (fun kq v3 v4 w' => ∃ (x3_1 : List (S54)) (x4_1 : Int), v4 = .int .i64 x4_1 ∧ Aside0 (palingref21_order.l0 kq l0 x3_1 x4_1 = some r) ∧ Aside0 (kq ≤ k) ∧ Aside0 (Kd.R k54 54 w' w.heap.size (fun _ => True) v3 x3_1) ∧ Aside0 (Below w.heap.size w w'))
 case atStart => exact ⟨(([] : List (S54))), (0), aq7, H', ⟨Nat.le_refl _⟩, ⟨aq22⟩, ⟨aq0⟩⟩
 case round =>
  clear H'
  obtain ⟨x3_1, x4_1, rfl, HA, HK1, HO_3, HB⟩ := hrel
  cases gk with
  | zero => exact absurd HA.out (by simp [palingref21_order.l0])
  | succ k1 =>
   have H := HA.out
   clear HA
   simp only [palingref21_order.l0] at H
   by_cases c2 : x4_1 < (l0.length : Int)
   rotate_left
   ·rw [if_neg c2] at H
    have c2b0 : decide (x4_1 < (l0.length : Int)) = false := decide_eq_false c2
    clear c2
    obtain rfl := Option.some.inj H
    go_wp2
    repeat (go_quiet (fail); try go_wp2)
    go_ret
    exact ⟨_, aq13, aq6, aq0⟩
   rw [if_pos c2] at H
   have c2b0 : decide (x4_1 < (l0.length : Int)) = true := decide_eq_true c2
   clear c2
   have H' := Aside0.mk H
   clear H
   go_wp2
   repeat (go_quiet (fail); try go_wp2)
   go_loopg [5] k1 (fun kq v5 w' => ∃ (x5_2 : Int), v5 = .int .i64 x5_2 ∧ Aside0 (palingref21_order.l1 kq l0 x3_1 x4_1 x5_2 = some r) ∧ Aside0 (kq ≤ k1) ∧ Aside0 (Kd.R k54 54 w' w.heap.size (fun _ => True) u3 x3_1) ∧ Aside0 (Below w.heap.size w w'))
   case atStart => exact ⟨(0), aq7, H', ⟨Nat.le_refl _⟩, ⟨aq6⟩, ⟨aq0⟩⟩
   case round =>
    clear H'
    obtain ⟨x5_2, rfl, HA, HK2, HO_3, HB⟩ := hrel
    cases gk with
    | zero => exact absurd HA.out (by simp [palingref21_order.l1])
    | succ k2 =>
     have H := HA.out
     clear HA
     simp only [palingref21_order.l1] at H
     by_cases c3 : x5_2 < (x3_1.length : Int)
     rotate_left
     ·rw [if_neg c3] at H
      have c3b0 : decide (x5_2 < (x3_1.length : Int)) = false := decide_eq_false c3
      clear c3
      by_cases c38 : 0 ≤ x5_2
      rotate_left
      ·rw [if_neg c38] at H
       exact absurd H (by simp)
      rw [if_pos c38] at H
      have c38b0 := eq_true c38
      have c38b1 : decide (0 ≤ x5_2) = true := decide_eq_true c38
      clear c38
      by_cases c39 : x5_2 ≤ (x3_1.length : Int)
      rotate_left
      ·rw [if_neg c39] at H
       exact absurd H (by simp)
      rw [if_pos c39] at H
      have c39b0 := eq_true c39
      have c39b1 : decide (x5_2 ≤ (x3_1.length : Int)) = true := decide_eq_true c39
      clear c39
      obtain ⟨y194, hy_⟩ : ∃ y_ : List (S54), y_ = (x3_1.take (x5_2 : Int).toNat) := ⟨_, rfl⟩
      replace H : (if ([] : List (S54)).length + y194.length < 5864062014805 then ((some (([] : List (S54)) ++ y194 : List (S54))).bind fun y198 => (if 0 ≤ x4_1 then (if x4_1 < (l0.length : Int) then (if y198.length < 5864062014805 then ((some (y198 ++ [(⟨(rd_T54 l0 x4_1).f0, (rd_T54 l0 x4_1).f1, (rd_T54 l0 x4_1).f2⟩ : S54)] : List (S54))).bind fun y202 => ((some (x3_1.drop (x5_2 : Int).toNat : List (S54))).bind fun y205 => (if y202.length + y205.length < 5864062014805 then (palingref21_order.l0 k2 l0 (y202 ++ y205) (wrap64 (x4_1 + 1))) else (none)))) else (none)) else (none)) else (none))) else (none)) = some r := aq3
      have Ny194 := Aside0.mk hy_
      clear hy_
      by_cases c40 : ([] : List (S54)).length + y194.length < 5864062014805
      rotate_left
      ·rw [if_neg c40] at H
       exact absurd H (by simp)
      rw [if_pos c40] at H
      have LMc40 := Aside0.mk c40
      clear c40
      obtain ⟨y198, hy_⟩ : ∃ y_ : List (S54), y_ = (([] : List (S54)) ++ y194) := ⟨_, rfl⟩
      replace H : (if 0 ≤ x4_1 then (if x4_1 < (l0.length : Int) then (if y198.length < 5864062014805 then ((some (y198 ++ [(⟨(rd_T54 l0 x4_1).f0, (rd_T54 l0 x4_1).f1, (rd_T54 l0 x4_1).f2⟩ : S54)] : List (S54))).bind fun y202 => ((some (x3_1.drop (x5_2 : Int).toNat : List (S54))).bind fun y205 => (if y202.length + y205.length < 5864062014805 then (palingref21_order.l0 k2 l0 (y202 ++ y205) (wrap64 (x4_1 + 1))) else (none)))) else (none)) else (none)) else (none)) = some r := aq3
      have Ny198 := Aside0.mk hy_
      clear hy_
      by_cases c41 : 0 ≤ x4_1
      rotate_left
      ·rw [if_neg c41] at H
       exact absurd H (by simp)
      rw [if_pos c41] at H
      have c41b0 : decide (0 ≤ x4_1) = true := decide_eq_true c41
      clear c41
      by_cases c42 : x4_1 < (l0.length : Int)
      rotate_left
      ·rw [if_neg c42] at H
       exact absurd H (by simp)
      rw [if_pos c42] at H
      have c42b0 : decide (x4_1 < (l0.length : Int)) = true := decide_eq_true c42
      clear c42
      by_cases c43 : y198.length < 5864062014805
      rotate_left
      ·rw [if_neg c43] at H
       exact absurd H (by simp)
      rw [if_pos c43] at H
      have LMc43 := Aside0.mk c43
      clear c43
      obtain ⟨y202, hy_⟩ : ∃ y_ : List (S54), y_ = (y198 ++ [(⟨(rd_T54 l0 x4_1).f0, (rd_T54 l0 x4_1).f1, (rd_T54 l0 x4_1).f2⟩ : S54)]) := ⟨_, rfl⟩
      replace H : ((some (x3_1.drop (x5_2 : Int).toNat : List (S54))).bind fun y205 => (if y202.length + y205.length < 5864062014805 then (palingref21_order.l0 k2 l0 (y202 ++ y205) (wrap64 (x4_1 + 1))) else (none))) = some r := aq3
      have Ny202 := Aside0.mk hy_
      clear hy_
      have c44b0 := eq_true (of_decide_eq_true aq2 : 0 ≤ x5_2)
      have c45b0 := eq_true (of_decide_eq_true aq2 : x5_2 ≤ (x3_1.length : Int))
      obtain ⟨y205, hy_⟩ : ∃ y_ : List (S54), y_ = (x3_1.drop (x5_2 : Int).toNat) := ⟨_, rfl⟩
      replace H : (if y202.length + y205.length < 5864062014805 then (palingref21_order.l0 k2 l0 (y202 ++ y205) (wrap64 (x4_1 + 1))) else (none)) = some r := aq3
      have Ny205 := Aside0.mk hy_
      clear hy_
      by_cases c46 : y202.length + y205.length < 5864062014805
      rotate_left
      ·rw [if_neg c46] at H
       exact absurd H (by simp)
      rw [if_pos c46] at H
      have LMc46 := Aside0.mk c46
      clear c46
      obtain ⟨y209, hy_⟩ : ∃ y_ : List (S54), y_ = (y202 ++ y205) := ⟨_, rfl⟩
      replace H : (palingref21_order.l0 k2 l0 y209 (wrap64 (x4_1 + 1))) = some r := aq3
      have Ny209 := Aside0.mk hy_
      clear hy_
      have H' := Aside0.mk H
      clear H
      obtain ⟨Ao47, co47, eo47⟩ := Kd.R_slice HO_3.out
      subst eo47
      have q48 : (x5_2 : Int) ≤ ((x3_1.length : Int) : Int) := of_decide_eq_true aq2
      obtain ⟨i048, hi048, _, hsz48, _⟩ := info_parts info54
      have hroom48 : x3_1.length ≤ co47 := (Kd.R_reads' HO_3.out).2.1
      have hC48 : Kd.C k54 _ Ao47 x3_1.length x3_1 := (Kd.R_reads' HO_3.out).2.2
      have hcut48 := cut_to (P := Tryd.prog) 50 54 .i64 Tryd.underlying50 hi048 Ao47 x3_1.length co47 x5_2 (of_decide_eq_true aq2) q48 hroom48
      have hr48 := Kd.C_take (m := (x5_2 : Int).toNat) hC48 (by omega)
      have hy48 : y194.length = (x5_2 : Int).toNat := (by rw [Ny194.out, List.length_take]; omega)
      rw [← Ny194.out] at hr48
      rw [← hy48] at hcut48
      have HR197 := Aside0.mk hr48
      have HC197 := Aside0.mk (show y194.length ≤ co47 from by omega)
      clear hr48 hC48 hroom48 hi048 hsz48
      have KY48 := Aside0.mk hy48
      clear hy48
      have KL48 := Aside0.mk (show (x5_2 : Int).toNat ≤ x3_1.length from by omega)
      replace q48 := eq_true q48
      go_wp2_with (first | ((with_reducible refine gate_builtin (b := .append) (xs := #[.tmp 58, .tmp 61]) rfl ?_); at_builtin; refine Kd.R_append_rows k54 (w0 := w) w.heap.size rfl (.tmp 58) (.tmp 61) 50 54 (.agg #[(.int .i64 0), (.int .i64 0), (.int .i64 0)]) 24 rfl Tryd.underlying50 info54 rfl (by decide) (by omega) (.slice none 0 0) ([] : List (S54)) y194 _ _ _ (fun k_ => some k_ ≠ (.slice Ao47 x3_1.length co47 : Value).ownBlock) (fun _ => False) rfl rfl ?aO ?aR (fun _ _ h => h) (fun _ h => h.elim) ?aF ?aB ?aS ?aL ?_; (case aR => repeat (first | exact (by repeat (first | (with_reducible exact HR197.out) | (with_reducible refine Kd.C_alloc ?_ _) | (with_reducible refine Kd.C_drewN ?_ _) | (with_reducible refine Kd.C_drew ?_) | exact HR197.out)) | (with_reducible refine Kd.C_alloc ?_ _) | (with_reducible refine Kd.C_drewN ?_ _) | (with_reducible refine Kd.C_drew ?_))); (case aB => exact aq0); (case aF => exact (fun k_ hk => Kd.fresh' (Kd.R_lt aq6) k_ hk)); (case aO => exact ((Kd.R_nil _ _ _ _ (fun k_ => some k_ ≠ (.slice Ao47 x3_1.length co47 : Value).ownBlock)))); (case aS => exact (below_size aq0)); (case aL => have := LMc40.out; omega); intro v199 w49 ho hb hg hat; rw [← Ny198.out] at ho; replace HB := Aside0.mk (hb); replace HR197 := Aside0.mk ((show Kd.C k54 w49 Ao47 y194.length y194 from by rw [Ny194.out]; exact Kd.C_take (m := (x5_2 : Int).toNat) ((Kd.R_reads' (Kd.R_after (Kd.R_apart_nil aq6) hg hat)).2.2) KL48.out)); replace HO_3 := Aside0.mk (Kd.R_after (Kd.R_apart_nil aq6) hg hat); have HO200 := Aside0.mk (ho); clear ho hb hg hat; have p201 : 0 ≤ (x4_1 : Int) := of_decide_eq_true aq2; have q201 : x4_1 < (l0.length : Int) := of_decide_eq_true aq2; obtain ⟨ad201, e201, hx201_0, hx201_1, hx201_2⟩ := at_T54 HR0.out x4_1 p201 q201; cases e201; replace hx201_0 := (HB.out.cell (World.block_lt_of_cell? w _ hx201_0)).trans hx201_0; replace hx201_1 := (HB.out.cell (World.block_lt_of_cell? w _ hx201_1)).trans hx201_1; replace hx201_2 := (HB.out.cell (World.block_lt_of_cell? w _ hx201_2)).trans hx201_2; replace p201 := eq_true p201; replace q201 := eq_true q201) | ((with_reducible refine gate_builtin (b := .append) (xs := #[.tmp 63, .tmp 68]) rfl ?_); at_builtin; refine Kd.R_append k54 (w0 := w) w.heap.size rfl (.tmp 63) (.tmp 68) 50 54 (.agg #[(.int .i64 0), (.int .i64 0), (.int .i64 0)]) 24 rfl Tryd.underlying50 info54 rfl (by decide) (by omega) v199 y198 (⟨(rd_T54 l0 x4_1).f0, (rd_T54 l0 x4_1).f1, (rd_T54 l0 x4_1).f2⟩ : S54) [.int .i64 ((rd_T54 l0 x4_1).f0), .int .i64 ((rd_T54 l0 x4_1).f1), .int .i64 ((rd_T54 l0 x4_1).f2)] (fun k_ => some k_ ≠ (.slice Ao47 x3_1.length co47 : Value).ownBlock) (fun _ => False) rfl rfl ?aP (fun _ hk => hk.elim) ?aF ?aO ?aB ?aS ?aL ?_; (case aP => exact k54_mkM _ _ _ (⟨(rd_T54 l0 x4_1).f0, (rd_T54 l0 x4_1).f1, (rd_T54 l0 x4_1).f2⟩ : S54)); (case aB => exact aq0); (case aF => exact (fun k_ hk => Kd.fresh' (Kd.R_lt aq6) k_ hk)); (case aO => exact (by (with_reducible repeat (first | apply Kd.R_alloc | apply Kd.R_drewN | apply Kd.R_drew)); exact HO200.out)); (case aS => exact (below_size aq0)); (case aL => have := LMc43.out; omega); intro v203 w50 ho hb hg hat; rw [← Ny202.out] at ho; replace HB := Aside0.mk (hb); replace HR197 := Aside0.mk ((show Kd.C k54 w50 Ao47 y194.length y194 from by rw [Ny194.out]; exact Kd.C_take (m := (x5_2 : Int).toNat) ((Kd.R_reads' (Kd.R_after (ok := (fun _ => True)) aq6 hg hat)).2.2) KL48.out)); replace HO_3 := Aside0.mk (Kd.R_after (ok := (fun _ => True)) aq6 hg hat); have HO204 := Aside0.mk (ho); clear HO200; clear ho hb hg hat; have q51 : (x5_2 : Int) ≤ ((x3_1.length : Int) : Int) := of_decide_eq_true aq2; obtain ⟨i051, hi051, _, hsz51, _⟩ := info_parts info54; have hroom51 : x3_1.length ≤ co47 := (Kd.R_reads' HO_3.out).2.1; have hC51 : Kd.C k54 _ Ao47 x3_1.length x3_1 := (Kd.R_reads' HO_3.out).2.2; have q051 : (0 : Int) ≤ (x5_2 : Int) := of_decide_eq_true aq2; have hcut51 := cut_from (P := Tryd.prog) 50 54 .i64 Tryd.underlying50 hi051 3 hsz51 Ao47 x3_1.length co47 x5_2 q051 q51; have hr51 := Kd.C_drop (m := (x5_2 : Int).toNat) (c := co47) hC51 (by omega) hroom51; obtain ⟨A51, hA51⟩ : ∃ A1, A1 = (if co47 = (x5_2 : Int).toNat then Ao47 else (Ao47 : Option Addr).map (·.add ((x5_2 : Int).toNat * 3))) := ⟨_, rfl⟩; obtain ⟨c51, hc51⟩ : ∃ c1, c1 = co47 - (x5_2 : Int).toNat := ⟨_, rfl⟩; have hy51 : y205.length = x3_1.length - (x5_2 : Int).toNat := (by rw [Ny205.out, List.length_drop] <;> omega); rw [show (x3_1).drop (x5_2 : Int).toNat = y205 from Ny205.out.symm] at hr51; replace hr51 : Kd.C k54 _ A51 y205.length y205 := (by rw [hA51]; exact hr51); rw [← hy51, ← hA51, ← hc51] at hcut51; have HR208 := Aside0.mk hr51; have HC208 := Aside0.mk (show y205.length ≤ c51 from by rw [hy51, hc51]; exact Nat.sub_le_sub_right hroom51 _); clear hr51 hC51 hroom51 hi051 hsz51 hc51; have KY51 := Aside0.mk hy51; have KA51 := Aside0.mk hA51; clear hy51 hA51; have KL51 := Aside0.mk (show (x5_2 : Int).toNat ≤ x3_1.length from by omega); replace q51 := eq_true q51) | ((with_reducible refine gate_builtin (b := .append) (xs := #[.tmp 70, .tmp 73]) rfl ?_); at_builtin; refine Kd.R_append_rows k54 (w0 := w) w.heap.size rfl (.tmp 70) (.tmp 73) 50 54 (.agg #[(.int .i64 0), (.int .i64 0), (.int .i64 0)]) 24 rfl Tryd.underlying50 info54 rfl (by decide) (by omega) v203 y202 y205 _ _ _ (fun k_ => some k_ ≠ (.slice Ao47 x3_1.length co47 : Value).ownBlock) (fun _ => False) rfl rfl ?aO ?aR (fun _ _ h => h) (fun _ h => h.elim) ?aF ?aB ?aS ?aL ?_; (case aR => repeat (first | exact (by repeat (first | (with_reducible exact HR208.out) | (with_reducible refine Kd.C_alloc ?_ _) | (with_reducible refine Kd.C_drewN ?_ _) | (with_reducible refine Kd.C_drew ?_) | exact HR208.out)) | (with_reducible refine Kd.C_alloc ?_ _) | (with_reducible refine Kd.C_drewN ?_ _) | (with_reducible refine Kd.C_drew ?_))); (case aB => exact aq0); (case aF => exact (fun k_ hk => Kd.fresh' (Kd.R_lt aq6) k_ hk)); (case aO => exact (by (with_reducible repeat (first | apply Kd.R_alloc | apply Kd.R_drewN | apply Kd.R_drew)); exact HO204.out)); (case aS => exact (below_size aq0)); (case aL => have := LMc46.out; omega); intro v210 w52 ho hb hg hat; rw [← Ny209.out] at ho; replace HB := Aside0.mk (hb); replace HR197 := Aside0.mk ((show Kd.C k54 w52 Ao47 y194.length y194 from by rw [Ny194.out]; exact Kd.C_take (m := (x5_2 : Int).toNat) ((Kd.R_reads' (Kd.R_after (ok := (fun _ => True)) aq6 hg hat)).2.2) KL48.out)); replace HR208 := Aside0.mk ((show Kd.C k54 w52 A51 y205.length y205 from by rw [Ny205.out, KA51.out]; exact Kd.C_drop (m := (x5_2 : Int).toNat) (c := co47) ((Kd.R_reads' (Kd.R_after (ok := (fun _ => True)) aq6 hg hat)).2.2) KL51.out ((Kd.R_reads' (Kd.R_after (ok := (fun _ => True)) aq6 hg hat)).2.1))); replace HO_3 := Aside0.mk (Kd.R_after (ok := (fun _ => True)) aq6 hg hat); have HO211 := Aside0.mk (ho); clear HO204; clear ho hb hg hat) | (go_quiet (fail)))
      go_roundg k2
      case measure => have := HK1.out; have := HK2.out; omega
      case rel => exact ⟨(y209), (wrap64 (x4_1 + 1)), aq7, H', ⟨aq42⟩, ⟨by (with_reducible repeat (first | apply Kd.R_alloc | apply Kd.R_drewN | apply Kd.R_drew)); exact Kd.R_mono HO211.out (fun _ hk => trivial)⟩, ⟨aq0⟩⟩
     rw [if_pos c3] at H
     have c3b0 : decide (x5_2 < (x3_1.length : Int)) = true := decide_eq_true c3
     clear c3
     by_cases c4 : 0 ≤ x5_2
     rotate_left
     ·rw [if_neg c4] at H
      exact absurd H (by simp)
     rw [if_pos c4] at H
     have c4b0 : decide (0 ≤ x5_2) = true := decide_eq_true c4
     clear c4
     by_cases c5 : 0 ≤ x4_1
     rotate_left
     ·rw [if_neg c5] at H
      exact absurd H (by simp)
     rw [if_pos c5] at H
     have c5b0 : decide (0 ≤ x4_1) = true := decide_eq_true c5
     clear c5
     by_cases c6 : x4_1 < (l0.length : Int)
     rotate_left
     ·rw [if_neg c6] at H
      exact absurd H (by simp)
     rw [if_pos c6] at H
     have c6b0 : decide (x4_1 < (l0.length : Int)) = true := decide_eq_true c6
     clear c6
     by_cases c7 : ((rd_T54 x3_1 x5_2).f1) < ((rd_T54 l0 x4_1).f1)
     ·rw [if_pos c7] at H
      have c7b0 : decide (((rd_T54 x3_1 x5_2).f1) < ((rd_T54 l0 x4_1).f1)) = true := decide_eq_true c7
      clear c7
      have H' := Aside0.mk H
      clear H
      obtain ⟨Ao8, co8, eo8⟩ := Kd.R_slice HO_3.out
      subst eo8
      have p152 : 0 ≤ (x5_2 : Int) := of_decide_eq_true aq2
      have q152 : x5_2 < (x3_1.length : Int) := of_decide_eq_true aq2
      obtain ⟨ad152, e152, hx152_0, hx152_1, hx152_2⟩ := at_T54 (Kd.R_reads' HO_3.out).2.2 x5_2 p152 q152
      cases e152
      replace p152 := eq_true p152
      replace q152 := eq_true q152
      have p153 : 0 ≤ (x4_1 : Int) := of_decide_eq_true aq2
      have q153 : x4_1 < (l0.length : Int) := of_decide_eq_true aq2
      obtain ⟨ad153, e153, hx153_0, hx153_1, hx153_2⟩ := at_T54 HR0.out x4_1 p153 q153
      cases e153
      replace hx153_0 := (HB.out.cell (World.block_lt_of_cell? w _ hx153_0)).trans hx153_0
      replace hx153_1 := (HB.out.cell (World.block_lt_of_cell? w _ hx153_1)).trans hx153_1
      replace hx153_2 := (HB.out.cell (World.block_lt_of_cell? w _ hx153_2)).trans hx153_2
      replace p153 := eq_true p153
      replace q153 := eq_true q153
      go_wp2
      repeat (go_quiet (fail); try go_wp2)
      go_roundg k2
      case measure => have := HK1.out; have := HK2.out; omega
      case rel => exact ⟨(wrap64 (x5_2 + 1)), aq7, H', ⟨aq42⟩, ⟨aq6⟩, ⟨aq0⟩⟩
     rw [if_neg c7] at H
     have c7b0 : decide (((rd_T54 x3_1 x5_2).f1) < ((rd_T54 l0 x4_1).f1)) = false := decide_eq_false c7
     clear c7
     by_cases c9 : ((rd_T54 x3_1 x5_2).f1) = ((rd_T54 l0 x4_1).f1)
     rotate_left
     ·rw [if_neg c9] at H
      have c9b0 : (((rd_T54 x3_1 x5_2).f1) == ((rd_T54 l0 x4_1).f1)) = false := beq_eq_false_iff_ne.mpr c9
      have c9b1 : (((rd_T54 x3_1 x5_2).f1) != ((rd_T54 l0 x4_1).f1)) = true := bne_iff_ne.mpr c9
      have c25b0 := eq_true (of_decide_eq_true aq2 : 0 ≤ x5_2)
      by_cases c26 : x5_2 ≤ (x3_1.length : Int)
      rotate_left
      ·rw [if_neg c26] at H
       exact absurd H (by simp)
      rw [if_pos c26] at H
      have c26b0 := eq_true c26
      have c26b1 : decide (x5_2 ≤ (x3_1.length : Int)) = true := decide_eq_true c26
      clear c26
      obtain ⟨y176, hy_⟩ : ∃ y_ : List (S54), y_ = (x3_1.take (x5_2 : Int).toNat) := ⟨_, rfl⟩
      replace H : (if ([] : List (S54)).length + y176.length < 5864062014805 then ((some (([] : List (S54)) ++ y176 : List (S54))).bind fun y180 => (if y180.length < 5864062014805 then ((some (y180 ++ [(⟨(rd_T54 l0 x4_1).f0, (rd_T54 l0 x4_1).f1, (rd_T54 l0 x4_1).f2⟩ : S54)] : List (S54))).bind fun y184 => ((some (x3_1.drop (x5_2 : Int).toNat : List (S54))).bind fun y187 => (if y184.length + y187.length < 5864062014805 then (palingref21_order.l0 k2 l0 (y184 ++ y187) (wrap64 (x4_1 + 1))) else (none)))) else (none))) else (none)) = some r := aq3
      have Ny176 := Aside0.mk hy_
      clear hy_
      by_cases c27 : ([] : List (S54)).length + y176.length < 5864062014805
      rotate_left
      ·rw [if_neg c27] at H
       exact absurd H (by simp)
      rw [if_pos c27] at H
      have LMc27 := Aside0.mk c27
      clear c27
      obtain ⟨y180, hy_⟩ : ∃ y_ : List (S54), y_ = (([] : List (S54)) ++ y176) := ⟨_, rfl⟩
      replace H : (if y180.length < 5864062014805 then ((some (y180 ++ [(⟨(rd_T54 l0 x4_1).f0, (rd_T54 l0 x4_1).f1, (rd_T54 l0 x4_1).f2⟩ : S54)] : List (S54))).bind fun y184 => ((some (x3_1.drop (x5_2 : Int).toNat : List (S54))).bind fun y187 => (if y184.length + y187.length < 5864062014805 then (palingref21_order.l0 k2 l0 (y184 ++ y187) (wrap64 (x4_1 + 1))) else (none)))) else (none)) = some r := aq3
      have Ny180 := Aside0.mk hy_
      clear hy_
      by_cases c28 : y180.length < 5864062014805
      rotate_left
      ·rw [if_neg c28] at H
       exact absurd H (by simp)
      rw [if_pos c28] at H
      have LMc28 := Aside0.mk c28
      clear c28
      obtain ⟨y184, hy_⟩ : ∃ y_ : List (S54), y_ = (y180 ++ [(⟨(rd_T54 l0 x4_1).f0, (rd_T54 l0 x4_1).f1, (rd_T54 l0 x4_1).f2⟩ : S54)]) := ⟨_, rfl⟩
      replace H : ((some (x3_1.drop (x5_2 : Int).toNat : List (S54))).bind fun y187 => (if y184.length + y187.length < 5864062014805 then (palingref21_order.l0 k2 l0 (y184 ++ y187) (wrap64 (x4_1 + 1))) else (none))) = some r := aq3
      have Ny184 := Aside0.mk hy_
      clear hy_
      have c29b0 := eq_true (of_decide_eq_true aq2 : 0 ≤ x5_2)
      have c30b0 := eq_true (of_decide_eq_true aq2 : x5_2 ≤ (x3_1.length : Int))
      obtain ⟨y187, hy_⟩ : ∃ y_ : List (S54), y_ = (x3_1.drop (x5_2 : Int).toNat) := ⟨_, rfl⟩
      replace H : (if y184.length + y187.length < 5864062014805 then (palingref21_order.l0 k2 l0 (y184 ++ y187) (wrap64 (x4_1 + 1))) else (none)) = some r := aq3
      have Ny187 := Aside0.mk hy_
      clear hy_
      by_cases c31 : y184.length + y187.length < 5864062014805
      rotate_left
      ·rw [if_neg c31] at H
       exact absurd H (by simp)
      rw [if_pos c31] at H
      have LMc31 := Aside0.mk c31
      clear c31
      obtain ⟨y191, hy_⟩ : ∃ y_ : List (S54), y_ = (y184 ++ y187) := ⟨_, rfl⟩
      replace H : (palingref21_order.l0 k2 l0 y191 (wrap64 (x4_1 + 1))) = some r := aq3
      have Ny191 := Aside0.mk hy_
      clear hy_
      have H' := Aside0.mk H
      clear H
      obtain ⟨Ao32, co32, eo32⟩ := Kd.R_slice HO_3.out
      subst eo32
      have p152 : 0 ≤ (x5_2 : Int) := of_decide_eq_true aq2
      have q152 : x5_2 < (x3_1.length : Int) := of_decide_eq_true aq2
      obtain ⟨ad152, e152, hx152_0, hx152_1, hx152_2⟩ := at_T54 (Kd.R_reads' HO_3.out).2.2 x5_2 p152 q152
      cases e152
      replace p152 := eq_true p152
      replace q152 := eq_true q152
      have p153 : 0 ≤ (x4_1 : Int) := of_decide_eq_true aq2
      have q153 : x4_1 < (l0.length : Int) := of_decide_eq_true aq2
      obtain ⟨ad153, e153, hx153_0, hx153_1, hx153_2⟩ := at_T54 HR0.out x4_1 p153 q153
      cases e153
      replace hx153_0 := (HB.out.cell (World.block_lt_of_cell? w _ hx153_0)).trans hx153_0
      replace hx153_1 := (HB.out.cell (World.block_lt_of_cell? w _ hx153_1)).trans hx153_1
      replace hx153_2 := (HB.out.cell (World.block_lt_of_cell? w _ hx153_2)).trans hx153_2
      replace p153 := eq_true p153
      replace q153 := eq_true q153
      have p154 : 0 ≤ (x5_2 : Int) := of_decide_eq_true aq2
      have q154 : x5_2 < (x3_1.length : Int) := of_decide_eq_true aq2
      obtain ⟨ad154, e154, hx154_0, hx154_1, hx154_2⟩ := at_T54 (Kd.R_reads' HO_3.out).2.2 x5_2 p154 q154
      obtain rfl : ad152 = ad154 := (by injection e154)
      replace p154 := eq_true p154
      replace q154 := eq_true q154
      have p155 : 0 ≤ (x4_1 : Int) := of_decide_eq_true aq2
      have q155 : x4_1 < (l0.length : Int) := of_decide_eq_true aq2
      obtain ⟨ad155, e155, hx155_0, hx155_1, hx155_2⟩ := at_T54 HR0.out x4_1 p155 q155
      obtain rfl : ad153 = ad155 := (by injection e155)
      replace hx155_0 := (HB.out.cell (World.block_lt_of_cell? w _ hx155_0)).trans hx155_0
      replace hx155_1 := (HB.out.cell (World.block_lt_of_cell? w _ hx155_1)).trans hx155_1
      replace hx155_2 := (HB.out.cell (World.block_lt_of_cell? w _ hx155_2)).trans hx155_2
      replace p155 := eq_true p155
      replace q155 := eq_true q155
      have q33 : (x5_2 : Int) ≤ ((x3_1.length : Int) : Int) := of_decide_eq_true aq2
      obtain ⟨i033, hi033, _, hsz33, _⟩ := info_parts info54
      have hroom33 : x3_1.length ≤ co32 := (Kd.R_reads' HO_3.out).2.1
      have hC33 : Kd.C k54 _ (some ad152) x3_1.length x3_1 := (Kd.R_reads' HO_3.out).2.2
      have hcut33 := cut_to (P := Tryd.prog) 50 54 .i64 Tryd.underlying50 hi033 (some ad152) x3_1.length co32 x5_2 (of_decide_eq_true aq2) q33 hroom33
      have hr33 := Kd.C_take (m := (x5_2 : Int).toNat) hC33 (by omega)
      have hy33 : y176.length = (x5_2 : Int).toNat := (by rw [Ny176.out, List.length_take]; omega)
      rw [← Ny176.out] at hr33
      rw [← hy33] at hcut33
      have HR179 := Aside0.mk hr33
      have HC179 := Aside0.mk (show y176.length ≤ co32 from by omega)
      clear hr33 hC33 hroom33 hi033 hsz33
      have KY33 := Aside0.mk hy33
      clear hy33
      have KL33 := Aside0.mk (show (x5_2 : Int).toNat ≤ x3_1.length from by omega)
      replace q33 := eq_true q33
      go_wp2_with (first | ((with_reducible refine gate_builtin (b := .append) (xs := #[.tmp 58, .tmp 61]) rfl ?_); at_builtin; refine Kd.R_append_rows k54 (w0 := w) w.heap.size rfl (.tmp 58) (.tmp 61) 50 54 (.agg #[(.int .i64 0), (.int .i64 0), (.int .i64 0)]) 24 rfl Tryd.underlying50 info54 rfl (by decide) (by omega) (.slice none 0 0) ([] : List (S54)) y176 _ _ _ (fun k_ => some k_ ≠ (.slice (some ad152) x3_1.length co32 : Value).ownBlock) (fun _ => False) rfl rfl ?aO ?aR (fun _ _ h => h) (fun _ h => h.elim) ?aF ?aB ?aS ?aL ?_; (case aR => repeat (first | exact (by repeat (first | (with_reducible exact HR179.out) | (with_reducible refine Kd.C_alloc ?_ _) | (with_reducible refine Kd.C_drewN ?_ _) | (with_reducible refine Kd.C_drew ?_) | exact HR179.out)) | (with_reducible refine Kd.C_alloc ?_ _) | (with_reducible refine Kd.C_drewN ?_ _) | (with_reducible refine Kd.C_drew ?_))); (case aB => exact aq0); (case aF => exact (fun k_ hk => Kd.fresh' (Kd.R_lt aq6) k_ hk)); (case aO => exact ((Kd.R_nil _ _ _ _ (fun k_ => some k_ ≠ (.slice (some ad152) x3_1.length co32 : Value).ownBlock)))); (case aS => exact (below_size aq0)); (case aL => have := LMc27.out; omega); intro v181 w34 ho hb hg hat; rw [← Ny180.out] at ho; replace HB := Aside0.mk (hb); replace HR179 := Aside0.mk ((show Kd.C k54 w34 (some ad152) y176.length y176 from by rw [Ny176.out]; exact Kd.C_take (m := (x5_2 : Int).toNat) ((Kd.R_reads' (Kd.R_after (Kd.R_apart_nil aq6) hg hat)).2.2) KL33.out)); replace HO_3 := Aside0.mk (Kd.R_after (Kd.R_apart_nil aq6) hg hat); have HO182 := Aside0.mk (ho); clear ho hb hg hat; have p183 : 0 ≤ (x4_1 : Int) := of_decide_eq_true aq2; have q183 : x4_1 < (l0.length : Int) := of_decide_eq_true aq2; obtain ⟨ad183, e183, hx183_0, hx183_1, hx183_2⟩ := at_T54 HR0.out x4_1 p183 q183; obtain rfl : ad153 = ad183 := (by injection e183); replace hx183_0 := (HB.out.cell (World.block_lt_of_cell? w _ hx183_0)).trans hx183_0; replace hx183_1 := (HB.out.cell (World.block_lt_of_cell? w _ hx183_1)).trans hx183_1; replace hx183_2 := (HB.out.cell (World.block_lt_of_cell? w _ hx183_2)).trans hx183_2; replace p183 := eq_true p183; replace q183 := eq_true q183) | ((with_reducible refine gate_builtin (b := .append) (xs := #[.tmp 63, .tmp 68]) rfl ?_); at_builtin; refine Kd.R_append k54 (w0 := w) w.heap.size rfl (.tmp 63) (.tmp 68) 50 54 (.agg #[(.int .i64 0), (.int .i64 0), (.int .i64 0)]) 24 rfl Tryd.underlying50 info54 rfl (by decide) (by omega) v181 y180 (⟨(rd_T54 l0 x4_1).f0, (rd_T54 l0 x4_1).f1, (rd_T54 l0 x4_1).f2⟩ : S54) [.int .i64 ((rd_T54 l0 x4_1).f0), .int .i64 ((rd_T54 l0 x4_1).f1), .int .i64 ((rd_T54 l0 x4_1).f2)] (fun k_ => some k_ ≠ (.slice (some ad152) x3_1.length co32 : Value).ownBlock) (fun _ => False) rfl rfl ?aP (fun _ hk => hk.elim) ?aF ?aO ?aB ?aS ?aL ?_; (case aP => exact k54_mkM _ _ _ (⟨(rd_T54 l0 x4_1).f0, (rd_T54 l0 x4_1).f1, (rd_T54 l0 x4_1).f2⟩ : S54)); (case aB => exact aq0); (case aF => exact (fun k_ hk => Kd.fresh' (Kd.R_lt aq6) k_ hk)); (case aO => exact (by (with_reducible repeat (first | apply Kd.R_alloc | apply Kd.R_drewN | apply Kd.R_drew)); exact HO182.out)); (case aS => exact (below_size aq0)); (case aL => have := LMc28.out; omega); intro v185 w35 ho hb hg hat; rw [← Ny184.out] at ho; replace HB := Aside0.mk (hb); replace HR179 := Aside0.mk ((show Kd.C k54 w35 (some ad152) y176.length y176 from by rw [Ny176.out]; exact Kd.C_take (m := (x5_2 : Int).toNat) ((Kd.R_reads' (Kd.R_after (ok := (fun _ => True)) aq6 hg hat)).2.2) KL33.out)); replace HO_3 := Aside0.mk (Kd.R_after (ok := (fun _ => True)) aq6 hg hat); have HO186 := Aside0.mk (ho); clear HO182; clear ho hb hg hat; have q36 : (x5_2 : Int) ≤ ((x3_1.length : Int) : Int) := of_decide_eq_true aq2; obtain ⟨i036, hi036, _, hsz36, _⟩ := info_parts info54; have hroom36 : x3_1.length ≤ co32 := (Kd.R_reads' HO_3.out).2.1; have hC36 : Kd.C k54 _ (some ad152) x3_1.length x3_1 := (Kd.R_reads' HO_3.out).2.2; have q036 : (0 : Int) ≤ (x5_2 : Int) := of_decide_eq_true aq2; have hcut36 := cut_from (P := Tryd.prog) 50 54 .i64 Tryd.underlying50 hi036 3 hsz36 (some ad152) x3_1.length co32 x5_2 q036 q36; have hr36 := Kd.C_drop (m := (x5_2 : Int).toNat) (c := co32) hC36 (by omega) hroom36; obtain ⟨A36, hA36⟩ : ∃ A1, A1 = (if co32 = (x5_2 : Int).toNat then (some ad152) else ((some ad152) : Option Addr).map (·.add ((x5_2 : Int).toNat * 3))) := ⟨_, rfl⟩; obtain ⟨c36, hc36⟩ : ∃ c1, c1 = co32 - (x5_2 : Int).toNat := ⟨_, rfl⟩; have hy36 : y187.length = x3_1.length - (x5_2 : Int).toNat := (by rw [Ny187.out, List.length_drop] <;> omega); rw [show (x3_1).drop (x5_2 : Int).toNat = y187 from Ny187.out.symm] at hr36; replace hr36 : Kd.C k54 _ A36 y187.length y187 := (by rw [hA36]; exact hr36); rw [← hy36, ← hA36, ← hc36] at hcut36; have HR190 := Aside0.mk hr36; have HC190 := Aside0.mk (show y187.length ≤ c36 from by rw [hy36, hc36]; exact Nat.sub_le_sub_right hroom36 _); clear hr36 hC36 hroom36 hi036 hsz36 hc36; have KY36 := Aside0.mk hy36; have KA36 := Aside0.mk hA36; clear hy36 hA36; have KL36 := Aside0.mk (show (x5_2 : Int).toNat ≤ x3_1.length from by omega); replace q36 := eq_true q36) | ((with_reducible refine gate_builtin (b := .append) (xs := #[.tmp 70, .tmp 73]) rfl ?_); at_builtin; refine Kd.R_append_rows k54 (w0 := w) w.heap.size rfl (.tmp 70) (.tmp 73) 50 54 (.agg #[(.int .i64 0), (.int .i64 0), (.int .i64 0)]) 24 rfl Tryd.underlying50 info54 rfl (by decide) (by omega) v185 y184 y187 _ _ _ (fun k_ => some k_ ≠ (.slice (some ad152) x3_1.length co32 : Value).ownBlock) (fun _ => False) rfl rfl ?aO ?aR (fun _ _ h => h) (fun _ h => h.elim) ?aF ?aB ?aS ?aL ?_; (case aR => repeat (first | exact (by repeat (first | (with_reducible exact HR190.out) | (with_reducible refine Kd.C_alloc ?_ _) | (with_reducible refine Kd.C_drewN ?_ _) | (with_reducible refine Kd.C_drew ?_) | exact HR190.out)) | (with_reducible refine Kd.C_alloc ?_ _) | (with_reducible refine Kd.C_drewN ?_ _) | (with_reducible refine Kd.C_drew ?_))); (case aB => exact aq0); (case aF => exact (fun k_ hk => Kd.fresh' (Kd.R_lt aq6) k_ hk)); (case aO => exact (by (with_reducible repeat (first | apply Kd.R_alloc | apply Kd.R_drewN | apply Kd.R_drew)); exact HO186.out)); (case aS => exact (below_size aq0)); (case aL => have := LMc31.out; omega); intro v192 w37 ho hb hg hat; rw [← Ny191.out] at ho; replace HB := Aside0.mk (hb); replace HR179 := Aside0.mk ((show Kd.C k54 w37 (some ad152) y176.length y176 from by rw [Ny176.out]; exact Kd.C_take (m := (x5_2 : Int).toNat) ((Kd.R_reads' (Kd.R_after (ok := (fun _ => True)) aq6 hg hat)).2.2) KL33.out)); replace HR190 := Aside0.mk ((show Kd.C k54 w37 A36 y187.length y187 from by rw [Ny187.out, KA36.out]; exact Kd.C_drop (m := (x5_2 : Int).toNat) (c := co32) ((Kd.R_reads' (Kd.R_after (ok := (fun _ => True)) aq6 hg hat)).2.2) KL36.out ((Kd.R_reads' (Kd.R_after (ok := (fun _ => True)) aq6 hg hat)).2.1))); replace HO_3 := Aside0.mk (Kd.R_after (ok := (fun _ => True)) aq6 hg hat); have HO193 := Aside0.mk (ho); clear HO186; clear ho hb hg hat) | (go_quiet (fail)))
      go_roundg k2
      case measure => have := HK1.out; have := HK2.out; omega
      case rel => exact ⟨(y191), (wrap64 (x4_1 + 1)), aq7, H', ⟨aq42⟩, ⟨by (with_reducible repeat (first | apply Kd.R_alloc | apply Kd.R_drewN | apply Kd.R_drew)); exact Kd.R_mono HO193.out (fun _ hk => trivial)⟩, ⟨aq0⟩⟩
     rw [if_pos c9] at H
     have c9b0 : (((rd_T54 x3_1 x5_2).f1) == ((rd_T54 l0 x4_1).f1)) = true := beq_iff_eq.mpr c9
     have c9b1 : (((rd_T54 x3_1 x5_2).f1) != ((rd_T54 l0 x4_1).f1)) = false := bne_eq_false_iff_eq.mpr c9
     clear c9
     by_cases c10 : ((rd_T54 x3_1 x5_2).f0) < ((rd_T54 l0 x4_1).f0)
     ·rw [if_pos c10] at H
      have c10b0 : decide (((rd_T54 x3_1 x5_2).f0) < ((rd_T54 l0 x4_1).f0)) = true := decide_eq_true c10
      clear c10
      have H' := Aside0.mk H
      clear H
      obtain ⟨Ao11, co11, eo11⟩ := Kd.R_slice HO_3.out
      subst eo11
      have p152 : 0 ≤ (x5_2 : Int) := of_decide_eq_true aq2
      have q152 : x5_2 < (x3_1.length : Int) := of_decide_eq_true aq2
      obtain ⟨ad152, e152, hx152_0, hx152_1, hx152_2⟩ := at_T54 (Kd.R_reads' HO_3.out).2.2 x5_2 p152 q152
      cases e152
      replace p152 := eq_true p152
      replace q152 := eq_true q152
      have p153 : 0 ≤ (x4_1 : Int) := of_decide_eq_true aq2
      have q153 : x4_1 < (l0.length : Int) := of_decide_eq_true aq2
      obtain ⟨ad153, e153, hx153_0, hx153_1, hx153_2⟩ := at_T54 HR0.out x4_1 p153 q153
      cases e153
      replace hx153_0 := (HB.out.cell (World.block_lt_of_cell? w _ hx153_0)).trans hx153_0
      replace hx153_1 := (HB.out.cell (World.block_lt_of_cell? w _ hx153_1)).trans hx153_1
      replace hx153_2 := (HB.out.cell (World.block_lt_of_cell? w _ hx153_2)).trans hx153_2
      replace p153 := eq_true p153
      replace q153 := eq_true q153
      have p154 : 0 ≤ (x5_2 : Int) := of_decide_eq_true aq2
      have q154 : x5_2 < (x3_1.length : Int) := of_decide_eq_true aq2
      obtain ⟨ad154, e154, hx154_0, hx154_1, hx154_2⟩ := at_T54 (Kd.R_reads' HO_3.out).2.2 x5_2 p154 q154
      obtain rfl : ad152 = ad154 := (by injection e154)
      replace p154 := eq_true p154
      replace q154 := eq_true q154
      have p155 : 0 ≤ (x4_1 : Int) := of_decide_eq_true aq2
      have q155 : x4_1 < (l0.length : Int) := of_decide_eq_true aq2
      obtain ⟨ad155, e155, hx155_0, hx155_1, hx155_2⟩ := at_T54 HR0.out x4_1 p155 q155
      obtain rfl : ad153 = ad155 := (by injection e155)
      replace hx155_0 := (HB.out.cell (World.block_lt_of_cell? w _ hx155_0)).trans hx155_0
      replace hx155_1 := (HB.out.cell (World.block_lt_of_cell? w _ hx155_1)).trans hx155_1
      replace hx155_2 := (HB.out.cell (World.block_lt_of_cell? w _ hx155_2)).trans hx155_2
      replace p155 := eq_true p155
      replace q155 := eq_true q155
      have p156 : 0 ≤ (x5_2 : Int) := of_decide_eq_true aq2
      have q156 : x5_2 < (x3_1.length : Int) := of_decide_eq_true aq2
      obtain ⟨ad156, e156, hx156_0, hx156_1, hx156_2⟩ := at_T54 (Kd.R_reads' HO_3.out).2.2 x5_2 p156 q156
      obtain rfl : ad152 = ad156 := (by injection e156)
      replace p156 := eq_true p156
      replace q156 := eq_true q156
      have p157 : 0 ≤ (x4_1 : Int) := of_decide_eq_true aq2
      have q157 : x4_1 < (l0.length : Int) := of_decide_eq_true aq2
      obtain ⟨ad157, e157, hx157_0, hx157_1, hx157_2⟩ := at_T54 HR0.out x4_1 p157 q157
      obtain rfl : ad153 = ad157 := (by injection e157)
      replace hx157_0 := (HB.out.cell (World.block_lt_of_cell? w _ hx157_0)).trans hx157_0
      replace hx157_1 := (HB.out.cell (World.block_lt_of_cell? w _ hx157_1)).trans hx157_1
      replace hx157_2 := (HB.out.cell (World.block_lt_of_cell? w _ hx157_2)).trans hx157_2
      replace p157 := eq_true p157
      replace q157 := eq_true q157
      go_wp2
      repeat (go_quiet (fail); try go_wp2)
      go_roundg k2
      case measure => have := HK1.out; have := HK2.out; omega
      case rel => exact ⟨(wrap64 (x5_2 + 1)), aq7, H', ⟨aq42⟩, ⟨aq6⟩, ⟨aq0⟩⟩
     rw [if_neg c10] at H
     have c10b0 : decide (((rd_T54 x3_1 x5_2).f0) < ((rd_T54 l0 x4_1).f0)) = false := decide_eq_false c10
     clear c10
     have c12b0 := eq_true (of_decide_eq_true aq2 : 0 ≤ x5_2)
     by_cases c13 : x5_2 ≤ (x3_1.length : Int)
     rotate_left
     ·rw [if_neg c13] at H
      exact absurd H (by simp)
     rw [if_pos c13] at H
     have c13b0 := eq_true c13
     have c13b1 : decide (x5_2 ≤ (x3_1.length : Int)) = true := decide_eq_true c13
     clear c13
     obtain ⟨y158, hy_⟩ : ∃ y_ : List (S54), y_ = (x3_1.take (x5_2 : Int).toNat) := ⟨_, rfl⟩
     replace H : (if ([] : List (S54)).length + y158.length < 5864062014805 then ((some (([] : List (S54)) ++ y158 : List (S54))).bind fun y162 => (if y162.length < 5864062014805 then ((some (y162 ++ [(⟨(rd_T54 l0 x4_1).f0, (rd_T54 l0 x4_1).f1, (rd_T54 l0 x4_1).f2⟩ : S54)] : List (S54))).bind fun y166 => ((some (x3_1.drop (x5_2 : Int).toNat : List (S54))).bind fun y169 => (if y166.length + y169.length < 5864062014805 then (palingref21_order.l0 k2 l0 (y166 ++ y169) (wrap64 (x4_1 + 1))) else (none)))) else (none))) else (none)) = some r := aq3
     have Ny158 := Aside0.mk hy_
     clear hy_
     by_cases c14 : ([] : List (S54)).length + y158.length < 5864062014805
     rotate_left
     ·rw [if_neg c14] at H
      exact absurd H (by simp)
     rw [if_pos c14] at H
     have LMc14 := Aside0.mk c14
     clear c14
     obtain ⟨y162, hy_⟩ : ∃ y_ : List (S54), y_ = (([] : List (S54)) ++ y158) := ⟨_, rfl⟩
     replace H : (if y162.length < 5864062014805 then ((some (y162 ++ [(⟨(rd_T54 l0 x4_1).f0, (rd_T54 l0 x4_1).f1, (rd_T54 l0 x4_1).f2⟩ : S54)] : List (S54))).bind fun y166 => ((some (x3_1.drop (x5_2 : Int).toNat : List (S54))).bind fun y169 => (if y166.length + y169.length < 5864062014805 then (palingref21_order.l0 k2 l0 (y166 ++ y169) (wrap64 (x4_1 + 1))) else (none)))) else (none)) = some r := aq3
     have Ny162 := Aside0.mk hy_
     clear hy_
     by_cases c15 : y162.length < 5864062014805
     rotate_left
     ·rw [if_neg c15] at H
      exact absurd H (by simp)
     rw [if_pos c15] at H
     have LMc15 := Aside0.mk c15
     clear c15
     obtain ⟨y166, hy_⟩ : ∃ y_ : List (S54), y_ = (y162 ++ [(⟨(rd_T54 l0 x4_1).f0, (rd_T54 l0 x4_1).f1, (rd_T54 l0 x4_1).f2⟩ : S54)]) := ⟨_, rfl⟩
     replace H : ((some (x3_1.drop (x5_2 : Int).toNat : List (S54))).bind fun y169 => (if y166.length + y169.length < 5864062014805 then (palingref21_order.l0 k2 l0 (y166 ++ y169) (wrap64 (x4_1 + 1))) else (none))) = some r := aq3
     have Ny166 := Aside0.mk hy_
     clear hy_
     have c16b0 := eq_true (of_decide_eq_true aq2 : 0 ≤ x5_2)
     have c17b0 := eq_true (of_decide_eq_true aq2 : x5_2 ≤ (x3_1.length : Int))
     obtain ⟨y169, hy_⟩ : ∃ y_ : List (S54), y_ = (x3_1.drop (x5_2 : Int).toNat) := ⟨_, rfl⟩
     replace H : (if y166.length + y169.length < 5864062014805 then (palingref21_order.l0 k2 l0 (y166 ++ y169) (wrap64 (x4_1 + 1))) else (none)) = some r := aq3
     have Ny169 := Aside0.mk hy_
     clear hy_
     by_cases c18 : y166.length + y169.length < 5864062014805
     rotate_left
     ·rw [if_neg c18] at H
      exact absurd H (by simp)
     rw [if_pos c18] at H
     have LMc18 := Aside0.mk c18
     clear c18
     obtain ⟨y173, hy_⟩ : ∃ y_ : List (S54), y_ = (y166 ++ y169) := ⟨_, rfl⟩
     replace H : (palingref21_order.l0 k2 l0 y173 (wrap64 (x4_1 + 1))) = some r := aq3
     have Ny173 := Aside0.mk hy_
     clear hy_
     have H' := Aside0.mk H
     clear H
     obtain ⟨Ao19, co19, eo19⟩ := Kd.R_slice HO_3.out
     subst eo19
     have p152 : 0 ≤ (x5_2 : Int) := of_decide_eq_true aq2
     have q152 : x5_2 < (x3_1.length : Int) := of_decide_eq_true aq2
     obtain ⟨ad152, e152, hx152_0, hx152_1, hx152_2⟩ := at_T54 (Kd.R_reads' HO_3.out).2.2 x5_2 p152 q152
     cases e152
     replace p152 := eq_true p152
     replace q152 := eq_true q152
     have p153 : 0 ≤ (x4_1 : Int) := of_decide_eq_true aq2
     have q153 : x4_1 < (l0.length : Int) := of_decide_eq_true aq2
     obtain ⟨ad153, e153, hx153_0, hx153_1, hx153_2⟩ := at_T54 HR0.out x4_1 p153 q153
     cases e153
     replace hx153_0 := (HB.out.cell (World.block_lt_of_cell? w _ hx153_0)).trans hx153_0
     replace hx153_1 := (HB.out.cell (World.block_lt_of_cell? w _ hx153_1)).trans hx153_1
     replace hx153_2 := (HB.out.cell (World.block_lt_of_cell? w _ hx153_2)).trans hx153_2
     replace p153 := eq_true p153
     replace q153 := eq_true q153
     have p154 : 0 ≤ (x5_2 : Int) := of_decide_eq_true aq2
     have q154 : x5_2 < (x3_1.length : Int) := of_decide_eq_true aq2
     obtain ⟨ad154, e154, hx154_0, hx154_1, hx154_2⟩ := at_T54 (Kd.R_reads' HO_3.out).2.2 x5_2 p154 q154
     obtain rfl : ad152 = ad154 := (by injection e154)
     replace p154 := eq_true p154
     replace q154 := eq_true q154
     have p155 : 0 ≤ (x4_1 : Int) := of_decide_eq_true aq2
     have q155 : x4_1 < (l0.length : Int) := of_decide_eq_true aq2
     obtain ⟨ad155, e155, hx155_0, hx155_1, hx155_2⟩ := at_T54 HR0.out x4_1 p155 q155
     obtain rfl : ad153 = ad155 := (by injection e155)
     replace hx155_0 := (HB.out.cell (World.block_lt_of_cell? w _ hx155_0)).trans hx155_0
     replace hx155_1 := (HB.out.cell (World.block_lt_of_cell? w _ hx155_1)).trans hx155_1
     replace hx155_2 := (HB.out.cell (World.block_lt_of_cell? w _ hx155_2)).trans hx155_2
     replace p155 := eq_true p155
     replace q155 := eq_true q155
     have p156 : 0 ≤ (x5_2 : Int) := of_decide_eq_true aq2
     have q156 : x5_2 < (x3_1.length : Int) := of_decide_eq_true aq2
     obtain ⟨ad156, e156, hx156_0, hx156_1, hx156_2⟩ := at_T54 (Kd.R_reads' HO_3.out).2.2 x5_2 p156 q156
     obtain rfl : ad152 = ad156 := (by injection e156)
     replace p156 := eq_true p156
     replace q156 := eq_true q156
     have p157 : 0 ≤ (x4_1 : Int) := of_decide_eq_true aq2
     have q157 : x4_1 < (l0.length : Int) := of_decide_eq_true aq2
     obtain ⟨ad157, e157, hx157_0, hx157_1, hx157_2⟩ := at_T54 HR0.out x4_1 p157 q157
     obtain rfl : ad153 = ad157 := (by injection e157)
     replace hx157_0 := (HB.out.cell (World.block_lt_of_cell? w _ hx157_0)).trans hx157_0
     replace hx157_1 := (HB.out.cell (World.block_lt_of_cell? w _ hx157_1)).trans hx157_1
     replace hx157_2 := (HB.out.cell (World.block_lt_of_cell? w _ hx157_2)).trans hx157_2
     replace p157 := eq_true p157
     replace q157 := eq_true q157
     have q20 : (x5_2 : Int) ≤ ((x3_1.length : Int) : Int) := of_decide_eq_true aq2
     obtain ⟨i020, hi020, _, hsz20, _⟩ := info_parts info54
     have hroom20 : x3_1.length ≤ co19 := (Kd.R_reads' HO_3.out).2.1
     have hC20 : Kd.C k54 _ (some ad152) x3_1.length x3_1 := (Kd.R_reads' HO_3.out).2.2
     have hcut20 := cut_to (P := Tryd.prog) 50 54 .i64 Tryd.underlying50 hi020 (some ad152) x3_1.length co19 x5_2 (of_decide_eq_true aq2) q20 hroom20
     have hr20 := Kd.C_take (m := (x5_2 : Int).toNat) hC20 (by omega)
     have hy20 : y158.length = (x5_2 : Int).toNat := (by rw [Ny158.out, List.length_take]; omega)
     rw [← Ny158.out] at hr20
     rw [← hy20] at hcut20
     have HR161 := Aside0.mk hr20
     have HC161 := Aside0.mk (show y158.length ≤ co19 from by omega)
     clear hr20 hC20 hroom20 hi020 hsz20
     have KY20 := Aside0.mk hy20
     clear hy20
     have KL20 := Aside0.mk (show (x5_2 : Int).toNat ≤ x3_1.length from by omega)
     replace q20 := eq_true q20
     go_wp2_with (first | ((with_reducible refine gate_builtin (b := .append) (xs := #[.tmp 58, .tmp 61]) rfl ?_); at_builtin; refine Kd.R_append_rows k54 (w0 := w) w.heap.size rfl (.tmp 58) (.tmp 61) 50 54 (.agg #[(.int .i64 0), (.int .i64 0), (.int .i64 0)]) 24 rfl Tryd.underlying50 info54 rfl (by decide) (by omega) (.slice none 0 0) ([] : List (S54)) y158 _ _ _ (fun k_ => some k_ ≠ (.slice (some ad152) x3_1.length co19 : Value).ownBlock) (fun _ => False) rfl rfl ?aO ?aR (fun _ _ h => h) (fun _ h => h.elim) ?aF ?aB ?aS ?aL ?_; (case aR => repeat (first | exact (by repeat (first | (with_reducible exact HR161.out) | (with_reducible refine Kd.C_alloc ?_ _) | (with_reducible refine Kd.C_drewN ?_ _) | (with_reducible refine Kd.C_drew ?_) | exact HR161.out)) | (with_reducible refine Kd.C_alloc ?_ _) | (with_reducible refine Kd.C_drewN ?_ _) | (with_reducible refine Kd.C_drew ?_))); (case aB => exact aq0); (case aF => exact (fun k_ hk => Kd.fresh' (Kd.R_lt aq6) k_ hk)); (case aO => exact ((Kd.R_nil _ _ _ _ (fun k_ => some k_ ≠ (.slice (some ad152) x3_1.length co19 : Value).ownBlock)))); (case aS => exact (below_size aq0)); (case aL => have := LMc14.out; omega); intro v163 w21 ho hb hg hat; rw [← Ny162.out] at ho; replace HB := Aside0.mk (hb); replace HR161 := Aside0.mk ((show Kd.C k54 w21 (some ad152) y158.length y158 from by rw [Ny158.out]; exact Kd.C_take (m := (x5_2 : Int).toNat) ((Kd.R_reads' (Kd.R_after (Kd.R_apart_nil aq6) hg hat)).2.2) KL20.out)); replace HO_3 := Aside0.mk (Kd.R_after (Kd.R_apart_nil aq6) hg hat); have HO164 := Aside0.mk (ho); clear ho hb hg hat; have p165 : 0 ≤ (x4_1 : Int) := of_decide_eq_true aq2; have q165 : x4_1 < (l0.length : Int) := of_decide_eq_true aq2; obtain ⟨ad165, e165, hx165_0, hx165_1, hx165_2⟩ := at_T54 HR0.out x4_1 p165 q165; obtain rfl : ad153 = ad165 := (by injection e165); replace hx165_0 := (HB.out.cell (World.block_lt_of_cell? w _ hx165_0)).trans hx165_0; replace hx165_1 := (HB.out.cell (World.block_lt_of_cell? w _ hx165_1)).trans hx165_1; replace hx165_2 := (HB.out.cell (World.block_lt_of_cell? w _ hx165_2)).trans hx165_2; replace p165 := eq_true p165; replace q165 := eq_true q165) | ((with_reducible refine gate_builtin (b := .append) (xs := #[.tmp 63, .tmp 68]) rfl ?_); at_builtin; refine Kd.R_append k54 (w0 := w) w.heap.size rfl (.tmp 63) (.tmp 68) 50 54 (.agg #[(.int .i64 0), (.int .i64 0), (.int .i64 0)]) 24 rfl Tryd.underlying50 info54 rfl (by decide) (by omega) v163 y162 (⟨(rd_T54 l0 x4_1).f0, (rd_T54 l0 x4_1).f1, (rd_T54 l0 x4_1).f2⟩ : S54) [.int .i64 ((rd_T54 l0 x4_1).f0), .int .i64 ((rd_T54 l0 x4_1).f1), .int .i64 ((rd_T54 l0 x4_1).f2)] (fun k_ => some k_ ≠ (.slice (some ad152) x3_1.length co19 : Value).ownBlock) (fun _ => False) rfl rfl ?aP (fun _ hk => hk.elim) ?aF ?aO ?aB ?aS ?aL ?_; (case aP => exact k54_mkM _ _ _ (⟨(rd_T54 l0 x4_1).f0, (rd_T54 l0 x4_1).f1, (rd_T54 l0 x4_1).f2⟩ : S54)); (case aB => exact aq0); (case aF => exact (fun k_ hk => Kd.fresh' (Kd.R_lt aq6) k_ hk)); (case aO => exact (by (with_reducible repeat (first | apply Kd.R_alloc | apply Kd.R_drewN | apply Kd.R_drew)); exact HO164.out)); (case aS => exact (below_size aq0)); (case aL => have := LMc15.out; omega); intro v167 w22 ho hb hg hat; rw [← Ny166.out] at ho; replace HB := Aside0.mk (hb); replace HR161 := Aside0.mk ((show Kd.C k54 w22 (some ad152) y158.length y158 from by rw [Ny158.out]; exact Kd.C_take (m := (x5_2 : Int).toNat) ((Kd.R_reads' (Kd.R_after (ok := (fun _ => True)) aq6 hg hat)).2.2) KL20.out)); replace HO_3 := Aside0.mk (Kd.R_after (ok := (fun _ => True)) aq6 hg hat); have HO168 := Aside0.mk (ho); clear HO164; clear ho hb hg hat; have q23 : (x5_2 : Int) ≤ ((x3_1.length : Int) : Int) := of_decide_eq_true aq2; obtain ⟨i023, hi023, _, hsz23, _⟩ := info_parts info54; have hroom23 : x3_1.length ≤ co19 := (Kd.R_reads' HO_3.out).2.1; have hC23 : Kd.C k54 _ (some ad152) x3_1.length x3_1 := (Kd.R_reads' HO_3.out).2.2; have q023 : (0 : Int) ≤ (x5_2 : Int) := of_decide_eq_true aq2; have hcut23 := cut_from (P := Tryd.prog) 50 54 .i64 Tryd.underlying50 hi023 3 hsz23 (some ad152) x3_1.length co19 x5_2 q023 q23; have hr23 := Kd.C_drop (m := (x5_2 : Int).toNat) (c := co19) hC23 (by omega) hroom23; obtain ⟨A23, hA23⟩ : ∃ A1, A1 = (if co19 = (x5_2 : Int).toNat then (some ad152) else ((some ad152) : Option Addr).map (·.add ((x5_2 : Int).toNat * 3))) := ⟨_, rfl⟩; obtain ⟨c23, hc23⟩ : ∃ c1, c1 = co19 - (x5_2 : Int).toNat := ⟨_, rfl⟩; have hy23 : y169.length = x3_1.length - (x5_2 : Int).toNat := (by rw [Ny169.out, List.length_drop] <;> omega); rw [show (x3_1).drop (x5_2 : Int).toNat = y169 from Ny169.out.symm] at hr23; replace hr23 : Kd.C k54 _ A23 y169.length y169 := (by rw [hA23]; exact hr23); rw [← hy23, ← hA23, ← hc23] at hcut23; have HR172 := Aside0.mk hr23; have HC172 := Aside0.mk (show y169.length ≤ c23 from by rw [hy23, hc23]; exact Nat.sub_le_sub_right hroom23 _); clear hr23 hC23 hroom23 hi023 hsz23 hc23; have KY23 := Aside0.mk hy23; have KA23 := Aside0.mk hA23; clear hy23 hA23; have KL23 := Aside0.mk (show (x5_2 : Int).toNat ≤ x3_1.length from by omega); replace q23 := eq_true q23) | ((with_reducible refine gate_builtin (b := .append) (xs := #[.tmp 70, .tmp 73]) rfl ?_); at_builtin; refine Kd.R_append_rows k54 (w0 := w) w.heap.size rfl (.tmp 70) (.tmp 73) 50 54 (.agg #[(.int .i64 0), (.int .i64 0), (.int .i64 0)]) 24 rfl Tryd.underlying50 info54 rfl (by decide) (by omega) v167 y166 y169 _ _ _ (fun k_ => some k_ ≠ (.slice (some ad152) x3_1.length co19 : Value).ownBlock) (fun _ => False) rfl rfl ?aO ?aR (fun _ _ h => h) (fun _ h => h.elim) ?aF ?aB ?aS ?aL ?_; (case aR => repeat (first | exact (by repeat (first | (with_reducible exact HR172.out) | (with_reducible refine Kd.C_alloc ?_ _) | (with_reducible refine Kd.C_drewN ?_ _) | (with_reducible refine Kd.C_drew ?_) | exact HR172.out)) | (with_reducible refine Kd.C_alloc ?_ _) | (with_reducible refine Kd.C_drewN ?_ _) | (with_reducible refine Kd.C_drew ?_))); (case aB => exact aq0); (case aF => exact (fun k_ hk => Kd.fresh' (Kd.R_lt aq6) k_ hk)); (case aO => exact (by (with_reducible repeat (first | apply Kd.R_alloc | apply Kd.R_drewN | apply Kd.R_drew)); exact HO168.out)); (case aS => exact (below_size aq0)); (case aL => have := LMc18.out; omega); intro v174 w24 ho hb hg hat; rw [← Ny173.out] at ho; replace HB := Aside0.mk (hb); replace HR161 := Aside0.mk ((show Kd.C k54 w24 (some ad152) y158.length y158 from by rw [Ny158.out]; exact Kd.C_take (m := (x5_2 : Int).toNat) ((Kd.R_reads' (Kd.R_after (ok := (fun _ => True)) aq6 hg hat)).2.2) KL20.out)); replace HR172 := Aside0.mk ((show Kd.C k54 w24 A23 y169.length y169 from by rw [Ny169.out, KA23.out]; exact Kd.C_drop (m := (x5_2 : Int).toNat) (c := co19) ((Kd.R_reads' (Kd.R_after (ok := (fun _ => True)) aq6 hg hat)).2.2) KL23.out ((Kd.R_reads' (Kd.R_after (ok := (fun _ => True)) aq6 hg hat)).2.1))); replace HO_3 := Aside0.mk (Kd.R_after (ok := (fun _ => True)) aq6 hg hat); have HO175 := Aside0.mk (ho); clear HO168; clear ho hb hg hat) | (go_quiet (fail)))
     go_roundg k2
     case measure => have := HK1.out; have := HK2.out; omega
     case rel => exact ⟨(y173), (wrap64 (x4_1 + 1)), aq7, H', ⟨aq42⟩, ⟨by (with_reducible repeat (first | apply Kd.R_alloc | apply Kd.R_drewN | apply Kd.R_drew)); exact Kd.R_mono HO175.out (fun _ hk => trivial)⟩, ⟨aq0⟩⟩
end Go.Proofs.YtpbhfpbfmpocdaaDoor.PSpillNone
