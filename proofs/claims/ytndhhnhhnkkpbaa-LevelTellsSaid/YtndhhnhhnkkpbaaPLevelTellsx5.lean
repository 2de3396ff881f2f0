-- Written by print2.py over the kit's printer. Not trusted: Lean checks it.
import Derived.Test.YtndhhnhhnkkpbaaPLevelTellsx0
import Derived.Test.YtndhhnhhnkkpbaaPLevelTellsx2
import Derived.Test.YtndhhnhhnkkpbaaPLevelTellsx4
namespace Go.Proofs.Ytndhhnhhnkkpbaa.PLevelTells
open Go.RowKit Go.Proofs.YtndhhnhhnkkpbaaW.PrintWords Go.Proofs.YtndhhnhhnkkpbaaW.PrintLast Go.Proofs.YtndhhnhhnkkpbaaW.PrintMore
attribute [local go_sem] max2_int min2_int max_two min_two max_three min_three max_four min_four   -- for this text's walks alone
set_option linter.unusedVariables false
set_option linter.unusedSimpArgs false

/-! ### palingref11_Check: function 11 -/
mutual
def palingref11_Check.j0 : Nat → List (S36) → Int → Int → Bool → Option (Bool)
  | 0, _, _, _, _ => none
  | k + 1, x0, x1, x2, x17 => if x17 = true then (some false) else (palingref11_Check.l0 k x0 x1 x2 0)
def palingref11_Check.l0 : Nat → List (S36) → Int → Int → Int → Option (Bool)
  | 0, _, _, _, _ => none
  | k + 1, x0, x1, x2, x7 => if x7 < (x0.length : Int) then (if 0 ≤ x7 then ((palingref11_one.f k ((rd_T36 x0 x7).f0) ((rd_T36 x0 x7).f1) ((rd_T36 x0 x7).f2) ((rd_T36 x0 x7).f3) ((rd_T36 x0 x7).f4) ((rd_T36 x0 x7).f5) ((rd_T36 x0 x7).f6) (x0.length : Int) x1 x2).bind fun t159 => (if t159 = true then (palingref11_Check.l0 k x0 x1 x2 (wrap64 (x7 + 1))) else (some false))) else (none)) else (if 0 ≤ (wrap64 ((x0.length : Int) - 1)) then (if (wrap64 ((x0.length : Int) - 1)) < (x0.length : Int) then (if ((rd_T36 x0 (wrap64 ((x0.length : Int) - 1))).f0) = 6 then (some true) else (if ((rd_T36 x0 (wrap64 ((x0.length : Int) - 1))).f0) = 12 then (some true) else (some (((rd_T36 x0 (wrap64 ((x0.length : Int) - 1))).f0) == 13)))) else (none)) else (none))
end
def palingref11_Check.f (k : Nat) (l0 : List (S36)) (a1 : Int) (a2 : Int) : Option (Bool) := if (l0.length : Int) < 1 then (palingref11_Check.j0 k l0 a1 a2 true) else (palingref11_Check.j0 k l0 a1 a2 (decide ((l0.length : Int) > 4096)))
theorem palingref11_Check.mono_l : ∀ k, (∀ y0 y1 y2 y3, LeO (palingref11_Check.j0 k y0 y1 y2 y3) (palingref11_Check.j0 (k + 1) y0 y1 y2 y3)) ∧ (∀ y0 y1 y2 y3, LeO (palingref11_Check.l0 k y0 y1 y2 y3) (palingref11_Check.l0 (k + 1) y0 y1 y2 y3))
  | 0 => ⟨fun _ _ _ _ r h => by simp [palingref11_Check.j0] at h, fun _ _ _ _ r h => by simp [palingref11_Check.l0] at h⟩
  | k + 1 => by
    obtain ⟨ih0, ih1⟩ := palingref11_Check.mono_l k
    refine ⟨?_, ?_⟩
    · intro y0 y1 y2 y3
      unfold palingref11_Check.j0
      repeat' first
      | (with_reducible exact ih0 _ _ _ _)
      | (with_reducible exact ih1 _ _ _ _)
      | (with_reducible exact palingref11_one.mono _ _ _ _ _ _ _ _ _ _ _)
      | (with_reducible exact LeO.refl _)
      | (with_reducible exact LeO.none _)
      | (with_reducible refine LeO.ite ?_ ?_)
      | (with_reducible refine LeO.bind ?_ (fun _ => ?_))
      | exact ih0 _ _ _ _
      | exact ih1 _ _ _ _
      | exact palingref11_one.mono _ _ _ _ _ _ _ _ _ _ _
      | exact LeO.none _
      | refine LeO.ite ?_ ?_
      | refine LeO.bind ?_ (fun _ => ?_)
    · intro y0 y1 y2 y3
      unfold palingref11_Check.l0
      repeat' first
      | (with_reducible exact ih0 _ _ _ _)
      | (with_reducible exact ih1 _ _ _ _)
      | (with_reducible exact palingref11_one.mono _ _ _ _ _ _ _ _ _ _ _)
      | (with_reducible exact LeO.refl _)
      | (with_reducible exact LeO.none _)
      | (with_reducible refine LeO.ite ?_ ?_)
      | (with_reducible refine LeO.bind ?_ (fun _ => ?_))
      | exact ih0 _ _ _ _
      | exact ih1 _ _ _ _
      | exact palingref11_one.mono _ _ _ _ _ _ _ _ _ _ _
      | exact LeO.none _
      | refine LeO.ite ?_ ?_
      | refine LeO.bind ?_ (fun _ => ?_)
theorem palingref11_Check.mono : ∀ a0 a1 a2 k, LeO (palingref11_Check.f k a0 a1 a2) (palingref11_Check.f (k + 1) a0 a1 a2) := by
  intro a0 a1 a2 k
  obtain ⟨ih0, ih1⟩ := palingref11_Check.mono_l k
  unfold palingref11_Check.f
  repeat' first
      | (with_reducible exact ih0 _ _ _ _)
      | (with_reducible exact ih1 _ _ _ _)
      | (with_reducible exact palingref11_one.mono _ _ _ _ _ _ _ _ _ _ _)
      | (with_reducible exact LeO.refl _)
      | (with_reducible exact LeO.none _)
      | (with_reducible refine LeO.ite ?_ ?_)
      | (with_reducible refine LeO.bind ?_ (fun _ => ?_))
      | exact ih0 _ _ _ _
      | exact ih1 _ _ _ _
      | exact palingref11_one.mono _ _ _ _ _ _ _ _ _ _ _
      | exact LeO.none _
      | refine LeO.ite ?_ ?_
      | refine LeO.bind ?_ (fun _ => ?_)
set_option maxHeartbeats 8000000 in
set_option maxRecDepth 100000 in
theorem palingref11_Check.calls (k : Nat) (A0 : Option Addr) (c0 : Nat) (l0 : List (S36)) (a1 : Int) (a2 : Int) (r : Bool) (w : World) (hr0 : Kd.C k36 w A0 l0.length l0) (hc0 : l0.length ≤ c0) (h : palingref11_Check.f k l0 a1 a2 = some r) :
    Calls Try.prog 11 #[.slice A0 l0.length c0, .int .i64 a1, .int .i64 a2] w fun e w' => e = .returned (.bool r) ∧ Below w.heap.size w w' := by
  have hu36 := Try.underlying36
  have HR0 := Aside0.mk hr0
  have HC0 := Aside0.mk hc0
  clear hr0 hc0
  have HB := Aside0.mk (Below.refl w.heap.size w)
  have H : (if (l0.length : Int) < 1 then (palingref11_Check.j0 k l0 a1 a2 true) else (palingref11_Check.j0 k l0 a1 a2 (decide ((l0.length : Int) > 4096)))) = some r := h
  clear h
  have HC4 := Aside0.mk H
  clear H
  go_enter Try.func11, Try.ntmps11
  go_upto_region 1 with (fail)
  go_cut [17] (fun v17 wc => ∃ (kq : Nat) (x17_3 : Bool), v17 = .bool x17_3 ∧ Aside0 (palingref11_Check.j0 kq l0 a1 a2 x17_3 = some r) ∧ Aside0 (kq ≤ k) ∧ Aside0 (Below w.heap.size w wc))
  case first =>
    have H := HC4.out
    clear HC4
    by_cases c5 : (l0.length : Int) < 1
    · rw [if_pos c5] at H
      have c5b0 : decide ((l0.length : Int) < 1) = true := decide_eq_true c5
      have c5b1 : decide (l0.length < 1) = true := decide_eq_true (by omega)
      clear c5
      (first | rw [c5b0] | (simp only [i64_w, i32_w]; rw [c5b0]) | skip)
      have H' := Aside0.mk H
      clear H
      go_wp2
      go_meet
      case rel => exact ⟨_, (true), (by first | rfl | (simp; done) | (simp [*]; done)), H', ⟨by first | omega | exact Nat.le_refl _⟩, ⟨by repeat (first | (with_reducible first | exact HB.out | apply below_alloc | apply pw_below_drewN | apply below_drew1) | exact HB.out)⟩⟩
    · rw [if_neg c5] at H
      have c5b0 : decide ((l0.length : Int) < 1) = false := decide_eq_false c5
      have c5b1 : decide (l0.length < 1) = false := decide_eq_false (by omega)
      clear c5
      (first | rw [c5b0] | (simp only [i64_w, i32_w]; rw [c5b0]) | skip)
      have H' := Aside0.mk H
      clear H
      go_wp2
      go_meet
      case rel => exact ⟨_, (decide ((l0.length : Int) > 4096)), (by first | rfl | (simp; done) | (simp [*]; done)), H', ⟨by first | omega | exact Nat.le_refl _⟩, ⟨by repeat (first | (with_reducible first | exact HB.out | apply below_alloc | apply pw_below_drewN | apply below_drew1) | exact HB.out)⟩⟩
  case rest =>
    clear HC4
    try clear c1
    try clear p2
    try clear c5
    try clear c5b0
    try clear c5b1
    obtain ⟨kq, x17_3, rfl, HA, HJ3, HB⟩ := hcut
    cases kq with
    | zero => exact absurd HA.out (by simp [palingref11_Check.j0])
    | succ kj3 =>
      have H := HA.out
      clear HA
      simp only [palingref11_Check.j0] at H
      by_cases c6 : x17_3 = true
      · subst c6
        have H1 : (some false) = some r := by rw [if_pos rfl] at H; exact H
        clear H
        have H := H1
        clear H1
        obtain rfl := Option.some.inj H
        go_wp2
        go_ret
        exact ⟨by first | rfl | (simp [errW_none, errW_some] <;> rfl) | (simp [*, errW_none, errW_some] <;> rfl), by repeat (first | (with_reducible first | exact HB.out | apply below_alloc | apply pw_below_drewN | apply below_drew1) | exact HB.out)⟩
      · replace c6 := Bool.eq_false_iff.mpr c6
        subst c6
        have H1 : (palingref11_Check.l0 kj3 l0 a1 a2 0) = some r := by rw [if_neg (show ¬ (false = true) by decide)] at H; exact H
        clear H
        have H := H1
        clear H1
        have H' := Aside0.mk H
        clear H
        go_wp2
        go_loopg [7] kj3 (fun kq v7 w' => ∃ (x7_2 : Int), v7 = .int .i64 x7_2 ∧ Aside0 (palingref11_Check.l0 kq l0 a1 a2 x7_2 = some r) ∧ Aside0 (kq ≤ kj3) ∧ Aside0 (Below w.heap.size w w'))
        case atStart => exact ⟨(0), (by first | rfl | (simp; done) | (simp [*]; done)), H', ⟨Nat.le_refl _⟩, ⟨by repeat (first | (with_reducible first | exact HB.out | apply below_alloc | apply pw_below_drewN | apply below_drew1) | exact HB.out)⟩⟩
        case round =>
          clear H'
          try clear c1
          try clear p2
          try clear c5
          try clear c5b0
          try clear c5b1
          try clear c6
          try clear p2
          obtain ⟨x7_2, rfl, HA, HK2, HB⟩ := hrel
          cases gk with
          | zero => exact absurd HA.out (by simp [palingref11_Check.l0])
          | succ k2 =>
            have H := HA.out
            clear HA
            simp only [palingref11_Check.l0] at H
            by_cases c7 : x7_2 < (l0.length : Int)
            · rw [if_pos c7] at H
              have c7b0 : decide (x7_2 < (l0.length : Int)) = true := decide_eq_true c7
              clear c7
              by_cases c8 : 0 ≤ x7_2
              · rw [if_pos c8] at H
                have c8b0 : decide (0 ≤ x7_2) = true := decide_eq_true c8
                clear c8
                replace H := Option.bind_eq_some_iff.mp H
                obtain ⟨t159, A90, H⟩ := H
                replace H : (if t159 = true then (palingref11_Check.l0 k2 l0 a1 a2 (wrap64 (x7_2 + 1))) else (some false)) = some r := H
                have A9 := Aside0.mk A90
                clear A90
                by_cases c10 : t159 = true
                · subst c10
                  have H1 : (palingref11_Check.l0 k2 l0 a1 a2 (wrap64 (x7_2 + 1))) = some r := by rw [if_pos rfl] at H; exact H
                  clear H
                  have H := H1
                  clear H1
                  have H' := Aside0.mk H
                  clear H
                  have p158 : 0 ≤ (x7_2 : Int) := of_decide_eq_true (by first | (with_reducible assumption) | assumption)
                  have q158 : x7_2 < (l0.length : Int) := of_decide_eq_true (by first | (with_reducible assumption) | assumption)
                  obtain ⟨ad158, e158, hx158_0, hx158_1, hx158_2, hx158_3, hx158_4, hx158_5, hx158_6⟩ := at_T36 HR0.out x7_2 p158 q158
                  cases e158
                  replace hx158_0 := (HB.out.cell (World.block_lt_of_cell? w _ hx158_0)).trans hx158_0
                  replace hx158_1 := (HB.out.cell (World.block_lt_of_cell? w _ hx158_1)).trans hx158_1
                  replace hx158_2 := (HB.out.cell (World.block_lt_of_cell? w _ hx158_2)).trans hx158_2
                  replace hx158_3 := (HB.out.cell (World.block_lt_of_cell? w _ hx158_3)).trans hx158_3
                  replace hx158_4 := (HB.out.cell (World.block_lt_of_cell? w _ hx158_4)).trans hx158_4
                  replace hx158_5 := (HB.out.cell (World.block_lt_of_cell? w _ hx158_5)).trans hx158_5
                  replace hx158_6 := (HB.out.cell (World.block_lt_of_cell? w _ hx158_6)).trans hx158_6
                  replace p158 := eq_true p158
                  replace q158 := eq_true q158
                  go_wp2_with (first | ((with_reducible refine gate_callee (f := 20) rfl ?_); refine goesL_ (some 32) rfl rfl Try.func20 (by kernel_rfl) rfl #[.agg #[.int .i64 ((rd_T36 l0 x7_2).f0), .int .i64 ((rd_T36 l0 x7_2).f1), .int .i64 ((rd_T36 l0 x7_2).f2), .int .i64 ((rd_T36 l0 x7_2).f3), .int .i64 ((rd_T36 l0 x7_2).f4), .int .i64 ((rd_T36 l0 x7_2).f5), .int .i64 ((rd_T36 l0 x7_2).f6)], .int .i64 (l0.length : Int), .int .i64 a1, .int .i64 a2] rfl (by (try simp only [List.map_toArray, List.map_cons, List.map_nil]); first | done | rfl | (simp only [List.length_drop, List.length_take]; rfl)) ?_; (with_reducible refine (palingref11_one.calls k2 ((rd_T36 l0 x7_2).f0) ((rd_T36 l0 x7_2).f1) ((rd_T36 l0 x7_2).f2) ((rd_T36 l0 x7_2).f3) ((rd_T36 l0 x7_2).f4) ((rd_T36 l0 x7_2).f5) ((rd_T36 l0 x7_2).f6) (l0.length : Int) a1 a2 true _ A9.out).mono ?_); rintro e w11 ⟨rfl, hb⟩; refine ⟨_, rfl, ?_⟩; have n0_ := Aside0.mk (below_step (by repeat (first | (with_reducible first | exact HB.out | apply below_alloc | apply pw_below_drewN | apply below_drew1) | exact HB.out)) hb); clear HB; have HB := n0_; clear n0_; (try clear hb); (try clear hb2); (try clear hk); (try clear hi)))
                  go_roundg k2
                  case measure => have := HJ3.out; have := HK2.out; omega
                  case rel => exact ⟨(wrap64 (x7_2 + 1)), (by first | rfl | (simp; done) | (simp [*]; done)), H', ⟨by have := HJ3.out; have := HK2.out; omega⟩, ⟨by repeat (first | (with_reducible first | exact HB.out | apply below_alloc | apply pw_below_drewN | apply below_drew1) | exact HB.out)⟩⟩
                · replace c10 := Bool.eq_false_iff.mpr c10
                  subst c10
                  have H1 : (some false) = some r := by rw [if_neg (show ¬ (false = true) by decide)] at H; exact H
                  clear H
                  have H := H1
                  clear H1
                  obtain rfl := Option.some.inj H
                  have p158 : 0 ≤ (x7_2 : Int) := of_decide_eq_true (by first | (with_reducible assumption) | assumption)
                  have q158 : x7_2 < (l0.length : Int) := of_decide_eq_true (by first | (with_reducible assumption) | assumption)
                  obtain ⟨ad158, e158, hx158_0, hx158_1, hx158_2, hx158_3, hx158_4, hx158_5, hx158_6⟩ := at_T36 HR0.out x7_2 p158 q158
                  cases e158
                  replace hx158_0 := (HB.out.cell (World.block_lt_of_cell? w _ hx158_0)).trans hx158_0
                  replace hx158_1 := (HB.out.cell (World.block_lt_of_cell? w _ hx158_1)).trans hx158_1
                  replace hx158_2 := (HB.out.cell (World.block_lt_of_cell? w _ hx158_2)).trans hx158_2
                  replace hx158_3 := (HB.out.cell (World.block_lt_of_cell? w _ hx158_3)).trans hx158_3
                  replace hx158_4 := (HB.out.cell (World.block_lt_of_cell? w _ hx158_4)).trans hx158_4
                  replace hx158_5 := (HB.out.cell (World.block_lt_of_cell? w _ hx158_5)).trans hx158_5
                  replace hx158_6 := (HB.out.cell (World.block_lt_of_cell? w _ hx158_6)).trans hx158_6
                  replace p158 := eq_true p158
                  replace q158 := eq_true q158
                  go_wp2_with (first | ((with_reducible refine gate_callee (f := 20) rfl ?_); refine goesL_ (some 32) rfl rfl Try.func20 (by kernel_rfl) rfl #[.agg #[.int .i64 ((rd_T36 l0 x7_2).f0), .int .i64 ((rd_T36 l0 x7_2).f1), .int .i64 ((rd_T36 l0 x7_2).f2), .int .i64 ((rd_T36 l0 x7_2).f3), .int .i64 ((rd_T36 l0 x7_2).f4), .int .i64 ((rd_T36 l0 x7_2).f5), .int .i64 ((rd_T36 l0 x7_2).f6)], .int .i64 (l0.length : Int), .int .i64 a1, .int .i64 a2] rfl (by (try simp only [List.map_toArray, List.map_cons, List.map_nil]); first | done | rfl | (simp only [List.length_drop, List.length_take]; rfl)) ?_; (with_reducible refine (palingref11_one.calls k2 ((rd_T36 l0 x7_2).f0) ((rd_T36 l0 x7_2).f1) ((rd_T36 l0 x7_2).f2) ((rd_T36 l0 x7_2).f3) ((rd_T36 l0 x7_2).f4) ((rd_T36 l0 x7_2).f5) ((rd_T36 l0 x7_2).f6) (l0.length : Int) a1 a2 false _ A9.out).mono ?_); rintro e w12 ⟨rfl, hb⟩; refine ⟨_, rfl, ?_⟩; have n0_ := Aside0.mk (below_step (by repeat (first | (with_reducible first | exact HB.out | apply below_alloc | apply pw_below_drewN | apply below_drew1) | exact HB.out)) hb); clear HB; have HB := n0_; clear n0_; (try clear hb); (try clear hb2); (try clear hk); (try clear hi)))
                  go_ret
                  exact ⟨by first | rfl | (simp [errW_none, errW_some] <;> rfl) | (simp [*, errW_none, errW_some] <;> rfl), by repeat (first | (with_reducible first | exact HB.out | apply below_alloc | apply pw_below_drewN | apply below_drew1) | exact HB.out)⟩
              · rw [if_neg c8] at H
                exact absurd H (by simp)
            · rw [if_neg c7] at H
              have c7b0 : decide (x7_2 < (l0.length : Int)) = false := decide_eq_false c7
              clear c7
              obtain ⟨ji13, hji13⟩ : ∃ j_ : Int, (wrap64 ((l0.length : Int) - 1)) = j_ := ⟨_, rfl⟩
              replace H : (if 0 ≤ (ji13) then (if (ji13) < (l0.length : Int) then (if ((rd_T36 l0 (ji13)).f0) = 6 then (some true) else (if ((rd_T36 l0 (ji13)).f0) = 12 then (some true) else (some (((rd_T36 l0 (ji13)).f0) == 13)))) else (none)) else (none)) = some r := by first | (rw [hji13] at H; exact H) | (simp only [hji13] at H ⊢; exact H)
              have hji13w : (IntKind.i64.wrap ((l0.length : Int) - 1)) = ji13 := (i64_w _).trans hji13
              by_cases c14 : 0 ≤ (ji13)
              · rw [if_pos c14] at H
                have c14b0 : decide (0 ≤ (ji13)) = true := decide_eq_true c14
                clear c14
                by_cases c15 : (ji13) < (l0.length : Int)
                · rw [if_pos c15] at H
                  have c15b0 : decide ((ji13) < (l0.length : Int)) = true := decide_eq_true c15
                  clear c15
                  by_cases c16 : ((rd_T36 l0 (ji13)).f0) = 6
                  · rw [if_pos c16] at H
                    have c16b0 : (((rd_T36 l0 (ji13)).f0) == 6) = true := beq_iff_eq.mpr c16
                    have c16b1 : (((rd_T36 l0 (ji13)).f0) != 6) = false := bne_eq_false_iff_eq.mpr c16
                    clear c16
                    obtain rfl := Option.some.inj H
                    have p160 : 0 ≤ ((ji13) : Int) := of_decide_eq_true (by first | (with_reducible assumption) | assumption)
                    have q160 : (ji13) < (l0.length : Int) := of_decide_eq_true (by first | (with_reducible assumption) | assumption)
                    obtain ⟨ad160, e160, hx160_0, hx160_1, hx160_2, hx160_3, hx160_4, hx160_5, hx160_6⟩ := at_T36 HR0.out (ji13) p160 q160
                    cases e160
                    replace hx160_0 := (HB.out.cell (World.block_lt_of_cell? w _ hx160_0)).trans hx160_0
                    replace hx160_1 := (HB.out.cell (World.block_lt_of_cell? w _ hx160_1)).trans hx160_1
                    replace hx160_2 := (HB.out.cell (World.block_lt_of_cell? w _ hx160_2)).trans hx160_2
                    replace hx160_3 := (HB.out.cell (World.block_lt_of_cell? w _ hx160_3)).trans hx160_3
                    replace hx160_4 := (HB.out.cell (World.block_lt_of_cell? w _ hx160_4)).trans hx160_4
                    replace hx160_5 := (HB.out.cell (World.block_lt_of_cell? w _ hx160_5)).trans hx160_5
                    replace hx160_6 := (HB.out.cell (World.block_lt_of_cell? w _ hx160_6)).trans hx160_6
                    replace p160 := eq_true p160
                    replace q160 := eq_true q160
                    go_wp2
                    go_ret
                    exact ⟨by first | rfl | (simp [errW_none, errW_some] <;> rfl) | (simp only [← hji13]; first | rfl | (simp [errW_none, errW_some] <;> rfl)) | (simp [*, errW_none, errW_some] <;> rfl), by repeat (first | (with_reducible first | exact HB.out | apply below_alloc | apply pw_below_drewN | apply below_drew1) | exact HB.out)⟩
                  · rw [if_neg c16] at H
                    have c16b0 : (((rd_T36 l0 (ji13)).f0) == 6) = false := beq_eq_false_iff_ne.mpr c16
                    have c16b1 : (((rd_T36 l0 (ji13)).f0) != 6) = true := bne_iff_ne.mpr c16
                    by_cases c17 : ((rd_T36 l0 (ji13)).f0) = 12
                    · rw [if_pos c17] at H
                      have c17b0 : (((rd_T36 l0 (ji13)).f0) == 12) = true := beq_iff_eq.mpr c17
                      have c17b1 : (((rd_T36 l0 (ji13)).f0) != 12) = false := bne_eq_false_iff_eq.mpr c17
                      clear c17
                      obtain rfl := Option.some.inj H
                      have p160 : 0 ≤ ((ji13) : Int) := of_decide_eq_true (by first | (with_reducible assumption) | assumption)
                      have q160 : (ji13) < (l0.length : Int) := of_decide_eq_true (by first | (with_reducible assumption) | assumption)
                      obtain ⟨ad160, e160, hx160_0, hx160_1, hx160_2, hx160_3, hx160_4, hx160_5, hx160_6⟩ := at_T36 HR0.out (ji13) p160 q160
                      cases e160
                      replace hx160_0 := (HB.out.cell (World.block_lt_of_cell? w _ hx160_0)).trans hx160_0
                      replace hx160_1 := (HB.out.cell (World.block_lt_of_cell? w _ hx160_1)).trans hx160_1
                      replace hx160_2 := (HB.out.cell (World.block_lt_of_cell? w _ hx160_2)).trans hx160_2
                      replace hx160_3 := (HB.out.cell (World.block_lt_of_cell? w _ hx160_3)).trans hx160_3
                      replace hx160_4 := (HB.out.cell (World.block_lt_of_cell? w _ hx160_4)).trans hx160_4
                      replace hx160_5 := (HB.out.cell (World.block_lt_of_cell? w _ hx160_5)).trans hx160_5
                      replace hx160_6 := (HB.out.cell (World.block_lt_of_cell? w _ hx160_6)).trans hx160_6
                      replace p160 := eq_true p160
                      replace q160 := eq_true q160
                      go_wp2
                      go_ret
                      exact ⟨by first | rfl | (simp [errW_none, errW_some] <;> rfl) | (simp only [← hji13]; first | rfl | (simp [errW_none, errW_some] <;> rfl)) | (simp [*, errW_none, errW_some] <;> rfl), by repeat (first | (with_reducible first | exact HB.out | apply below_alloc | apply pw_below_drewN | apply below_drew1) | exact HB.out)⟩
                    · rw [if_neg c17] at H
                      have c17b0 : (((rd_T36 l0 (ji13)).f0) == 12) = false := beq_eq_false_iff_ne.mpr c17
                      have c17b1 : (((rd_T36 l0 (ji13)).f0) != 12) = true := bne_iff_ne.mpr c17
                      obtain rfl := Option.some.inj H
                      have p160 : 0 ≤ ((ji13) : Int) := of_decide_eq_true (by first | (with_reducible assumption) | assumption)
                      have q160 : (ji13) < (l0.length : Int) := of_decide_eq_true (by first | (with_reducible assumption) | assumption)
                      obtain ⟨ad160, e160, hx160_0, hx160_1, hx160_2, hx160_3, hx160_4, hx160_5, hx160_6⟩ := at_T36 HR0.out (ji13) p160 q160
                      cases e160
                      replace hx160_0 := (HB.out.cell (World.block_lt_of_cell? w _ hx160_0)).trans hx160_0
                      replace hx160_1 := (HB.out.cell (World.block_lt_of_cell? w _ hx160_1)).trans hx160_1
                      replace hx160_2 := (HB.out.cell (World.block_lt_of_cell? w _ hx160_2)).trans hx160_2
                      replace hx160_3 := (HB.out.cell (World.block_lt_of_cell? w _ hx160_3)).trans hx160_3
                      replace hx160_4 := (HB.out.cell (World.block_lt_of_cell? w _ hx160_4)).trans hx160_4
                      replace hx160_5 := (HB.out.cell (World.block_lt_of_cell? w _ hx160_5)).trans hx160_5
                      replace hx160_6 := (HB.out.cell (World.block_lt_of_cell? w _ hx160_6)).trans hx160_6
                      replace p160 := eq_true p160
                      replace q160 := eq_true q160
                      go_wp2
                      go_ret
                      exact ⟨by first | rfl | (simp [errW_none, errW_some] <;> rfl) | (simp only [← hji13]; first | rfl | (simp [errW_none, errW_some] <;> rfl)) | (simp [*, errW_none, errW_some] <;> rfl), by repeat (first | (with_reducible first | exact HB.out | apply below_alloc | apply pw_below_drewN | apply below_drew1) | exact HB.out)⟩
                · rw [if_neg c15] at H
                  exact absurd H (by simp)
              · rw [if_neg c14] at H
                exact absurd H (by simp)

/-! ### palingref20_has: function 25 -/
def palingref20_has.l0 : Nat → List Int → Int → Int → Option (Bool)
  | 0, _, _, _ => none
  | k + 1, x0, x1, x5 => if x5 < (x0.length : Int) then (if 0 ≤ x5 then (if (rd x0 x5) = x1 then (some true) else (palingref20_has.l0 k x0 x1 (wrap64 (x5 + 1)))) else (none)) else (some false)
def palingref20_has.f (k : Nat) (l0 : List Int) (a1 : Int) : Option (Bool) := palingref20_has.l0 k l0 a1 0
theorem palingref20_has.mono_l : ∀ k, (∀ y0 y1 y2, LeO (palingref20_has.l0 k y0 y1 y2) (palingref20_has.l0 (k + 1) y0 y1 y2))
  | 0 => fun _ _ _ r h => by simp [palingref20_has.l0] at h
  | k + 1 => by
    have ih0 := palingref20_has.mono_l k
    · intro y0 y1 y2
      unfold palingref20_has.l0
      repeat' first
      | (with_reducible exact ih0 _ _ _)
      | (with_reducible exact LeO.refl _)
      | (with_reducible exact LeO.none _)
      | (with_reducible refine LeO.ite ?_ ?_)
      | (with_reducible refine LeO.bind ?_ (fun _ => ?_))
      | exact ih0 _ _ _
      | exact LeO.none _
      | refine LeO.ite ?_ ?_
      | refine LeO.bind ?_ (fun _ => ?_)
theorem palingref20_has.mono : ∀ a0 a1 k, LeO (palingref20_has.f k a0 a1) (palingref20_has.f (k + 1) a0 a1) := by
  intro a0 a1 k
  have ih0 := palingref20_has.mono_l k
  unfold palingref20_has.f
  repeat' first
      | (with_reducible exact ih0 _ _ _)
      | (with_reducible exact LeO.refl _)
      | (with_reducible exact LeO.none _)
      | (with_reducible refine LeO.ite ?_ ?_)
      | (with_reducible refine LeO.bind ?_ (fun _ => ?_))
      | exact ih0 _ _ _
      | exact LeO.none _
      | refine LeO.ite ?_ ?_
      | refine LeO.bind ?_ (fun _ => ?_)
set_option maxHeartbeats 8000000 in
set_option maxRecDepth 100000 in
theorem palingref20_has.calls (k : Nat) (A0 : Option Addr) (c0 : Nat) (l0 : List Int) (a1 : Int) (r : Bool) (w : World) (hr0 : Kd.C (Kd.int .i64) w A0 l0.length l0) (hc0 : l0.length ≤ c0) (h : palingref20_has.f k l0 a1 = some r) :
    Calls Try.prog 25 #[.slice A0 l0.length c0, .int .i64 a1] w fun e w' => e = .returned (.bool r) ∧ Drawn0 w w' := by
  have HR0 := Aside0.mk hr0
  have HC0 := Aside0.mk hc0
  clear hr0 hc0
  have H : (palingref20_has.l0 k l0 a1 0) = some r := h
  clear h
  have H' := Aside0.mk H
  clear H
  go_enter Try.func25, Try.ntmps25
  go_wp2
  go_loopg [5] k (fun kq v5 w' => ∃ (x5_1 : Int), v5 = .int .i64 x5_1 ∧ Aside0 (palingref20_has.l0 kq l0 a1 x5_1 = some r) ∧ Aside0 (kq ≤ k) ∧ Drawn0 w w')
  case atStart => exact ⟨(0), (by first | rfl | (simp; done) | (simp [*]; done)), H', ⟨Nat.le_refl _⟩, by repeat (first | exact Drawn0.refl _ | apply Drawn0.step)⟩
  case round =>
    clear H'
    try clear c2
    try clear p2
    obtain ⟨x5_1, rfl, HA, HK1, ⟨m1, rfl⟩⟩ := hrel
    cases gk with
    | zero => exact absurd HA.out (by simp [palingref20_has.l0])
    | succ k1 =>
      have H := HA.out
      clear HA
      simp only [palingref20_has.l0] at H
      by_cases c3 : x5_1 < (l0.length : Int)
      · rw [if_pos c3] at H
        have c3b0 : decide (x5_1 < (l0.length : Int)) = true := decide_eq_true c3
        clear c3
        by_cases c4 : 0 ≤ x5_1
        · rw [if_pos c4] at H
          have c4b0 : decide (0 ≤ x5_1) = true := decide_eq_true c4
          clear c4
          by_cases c5 : (rd l0 x5_1) = a1
          · rw [if_pos c5] at H
            have c5b0 : ((rd l0 x5_1) == a1) = true := beq_iff_eq.mpr c5
            have c5b1 : ((rd l0 x5_1) != a1) = false := bne_eq_false_iff_eq.mpr c5
            clear c5
            obtain rfl := Option.some.inj H
            have p161 : 0 ≤ (x5_1 : Int) := of_decide_eq_true (by first | (with_reducible assumption) | assumption)
            have q161 : x5_1 < (l0.length : Int) := of_decide_eq_true (by first | (with_reducible assumption) | assumption)
            obtain ⟨ad161, e161, hx161_0⟩ := Kd.at_int HR0.out x5_1 p161 q161
            cases e161
            replace p161 := eq_true p161
            replace q161 := eq_true q161
            go_wp2
            go_ret
            exact ⟨by first | rfl | (simp; done) | (simp [*]; done), by repeat (first | exact Drawn0.refl _ | apply Drawn0.step)⟩
          · rw [if_neg c5] at H
            have c5b0 : ((rd l0 x5_1) == a1) = false := beq_eq_false_iff_ne.mpr c5
            have c5b1 : ((rd l0 x5_1) != a1) = true := bne_iff_ne.mpr c5
            have H' := Aside0.mk H
            clear H
            have p161 : 0 ≤ (x5_1 : Int) := of_decide_eq_true (by first | (with_reducible assumption) | assumption)
            have q161 : x5_1 < (l0.length : Int) := of_decide_eq_true (by first | (with_reducible assumption) | assumption)
            obtain ⟨ad161, e161, hx161_0⟩ := Kd.at_int HR0.out x5_1 p161 q161
            cases e161
            replace p161 := eq_true p161
            replace q161 := eq_true q161
            go_wp2
            go_roundg k1
            case measure => have := HK1.out; omega
            case rel => exact ⟨(wrap64 (x5_1 + 1)), (by first | rfl | (simp; done) | (simp [*]; done)), H', ⟨by have := HK1.out; omega⟩, by repeat (first | exact Drawn0.refl _ | apply Drawn0.step)⟩
        · rw [if_neg c4] at H
          exact absurd H (by simp)
      · rw [if_neg c3] at H
        have c3b0 : decide (x5_1 < (l0.length : Int)) = false := decide_eq_false c3
        clear c3
        obtain rfl := Option.some.inj H
        go_wp2
        go_ret
        exact ⟨by first | rfl | (simp; done) | (simp [*]; done), by repeat (first | exact Drawn0.refl _ | apply Drawn0.step)⟩

/-! ### palingref20_makes: function 24 -/
def palingref20_makes.j0 : Nat → List Int → Bool → Int → Int → Int → Int → Int → Int → Int → Option (Bool)
  | 0, _, _, _, _, _, _, _, _, _ => none
  | k + 1, x2, x31, x163000, x163001, x163002, x163003, x163004, x163005, x163006 => if x31 = true then ((palingref20_has.f k x2 x163003).bind fun t166 => (if t166 = true then (some true) else ((palingref20_has.f k x2 x163004).bind fun t167 => (some t167)))) else (some false)
def palingref20_makes.f (k : Nat) (a0_0 : Int) (a0_1 : Int) (a0_2 : Int) (a0_3 : Int) (a0_4 : Int) (a0_5 : Int) (a0_6 : Int) (l1 : List (S26)) (l2 : List Int) : Option (Bool) := if a0_0 = 4 then ((palingref20_Area.f k l1 a0_5).bind fun t163 => (if t163 < 0 then (some true) else (if 0 ≤ t163 then (if t163 < (l1.length : Int) then (some ((rd_T26 l1 t163).f2)) else (none)) else (none)))) else (if a0_0 = 1 then ((palingref20_has.f k l2 a0_3).bind fun t165 => (some t165)) else (if a0_0 = 2 then (palingref20_makes.j0 k l2 (a0_0 == 2) a0_0 a0_1 a0_2 a0_3 a0_4 a0_5 a0_6) else (palingref20_makes.j0 k l2 (a0_0 == 3) a0_0 a0_1 a0_2 a0_3 a0_4 a0_5 a0_6)))
theorem palingref20_makes.mono_l : ∀ k, (∀ y0 y1 y2 y3 y4 y5 y6 y7 y8, LeO (palingref20_makes.j0 k y0 y1 y2 y3 y4 y5 y6 y7 y8) (palingref20_makes.j0 (k + 1) y0 y1 y2 y3 y4 y5 y6 y7 y8))
  | 0 => fun _ _ _ _ _ _ _ _ _ r h => by simp [palingref20_makes.j0] at h
  | k + 1 => by
    have ih0 := palingref20_makes.mono_l k
    · intro y0 y1 y2 y3 y4 y5 y6 y7 y8
      unfold palingref20_makes.j0
      repeat' first
      | (with_reducible exact ih0 _ _ _ _ _ _ _ _ _)
      | (with_reducible exact palingref20_Area.mono _ _ _)
      | (with_reducible exact palingref20_has.mono _ _ _)
      | (with_reducible exact LeO.refl _)
      | (with_reducible exact LeO.none _)
      | (with_reducible refine LeO.ite ?_ ?_)
      | (with_reducible refine LeO.bind ?_ (fun _ => ?_))
      | exact ih0 _ _ _ _ _ _ _ _ _
      | exact palingref20_Area.mono _ _ _
      | exact palingref20_has.mono _ _ _
      | exact LeO.none _
      | refine LeO.ite ?_ ?_
      | refine LeO.bind ?_ (fun _ => ?_)
theorem palingref20_makes.mono : ∀ a0 a1 a2 a3 a4 a5 a6 a7 a8 k, LeO (palingref20_makes.f k a0 a1 a2 a3 a4 a5 a6 a7 a8) (palingref20_makes.f (k + 1) a0 a1 a2 a3 a4 a5 a6 a7 a8) := by
  intro a0 a1 a2 a3 a4 a5 a6 a7 a8 k
  have ih0 := palingref20_makes.mono_l k
  unfold palingref20_makes.f
  repeat' first
      | (with_reducible exact ih0 _ _ _ _ _ _ _ _ _)
      | (with_reducible exact palingref20_Area.mono _ _ _)
      | (with_reducible exact palingref20_has.mono _ _ _)
      | (with_reducible exact LeO.refl _)
      | (with_reducible exact LeO.none _)
      | (with_reducible refine LeO.ite ?_ ?_)
      | (with_reducible refine LeO.bind ?_ (fun _ => ?_))
      | exact ih0 _ _ _ _ _ _ _ _ _
      | exact palingref20_Area.mono _ _ _
      | exact palingref20_has.mono _ _ _
      | exact LeO.none _
      | refine LeO.ite ?_ ?_
      | refine LeO.bind ?_ (fun _ => ?_)
set_option maxHeartbeats 8000000 in
set_option maxRecDepth 100000 in
theorem palingref20_makes.calls (k : Nat) (a0_0 : Int) (a0_1 : Int) (a0_2 : Int) (a0_3 : Int) (a0_4 : Int) (a0_5 : Int) (a0_6 : Int) (A1 : Option Addr) (c1 : Nat) (l1 : List (S26)) (A2 : Option Addr) (c2 : Nat) (l2 : List Int) (r : Bool) (w : World) (hr1 : Kd.C k26 w A1 l1.length l1) (hc1 : l1.length ≤ c1) (hr2 : Kd.C (Kd.int .i64) w A2 l2.length l2) (hc2 : l2.length ≤ c2) (h : palingref20_makes.f k a0_0 a0_1 a0_2 a0_3 a0_4 a0_5 a0_6 l1 l2 = some r) :
    Calls Try.prog 24 #[.agg #[.int .i64 a0_0, .int .i64 a0_1, .int .i64 a0_2, .int .i64 a0_3, .int .i64 a0_4, .int .i64 a0_5, .int .i64 a0_6], .slice A1 l1.length c1, .slice A2 l2.length c2] w fun e w' => e = .returned (.bool r) ∧ Below w.heap.size w w' := by
  have hu36 := Try.underlying36
  have HR1 := Aside0.mk hr1
  have HC1 := Aside0.mk hc1
  clear hr1 hc1
  have HR2 := Aside0.mk hr2
  have HC2 := Aside0.mk hc2
  clear hr2 hc2
  have HB := Aside0.mk (Below.refl w.heap.size w)
  have H : (if a0_0 = 4 then ((palingref20_Area.f k l1 a0_5).bind fun t163 => (if t163 < 0 then (some true) else (if 0 ≤ t163 then (if t163 < (l1.length : Int) then (some ((rd_T26 l1 t163).f2)) else (none)) else (none)))) else (if a0_0 = 1 then ((palingref20_has.f k l2 a0_3).bind fun t165 => (some t165)) else (if a0_0 = 2 then (palingref20_makes.j0 k l2 (a0_0 == 2) a0_0 a0_1 a0_2 a0_3 a0_4 a0_5 a0_6) else (palingref20_makes.j0 k l2 (a0_0 == 3) a0_0 a0_1 a0_2 a0_3 a0_4 a0_5 a0_6)))) = some r := h
  clear h
  by_cases c4 : a0_0 = 4
  · rw [if_pos c4] at H
    have c4b0 : (a0_0 == 4) = true := beq_iff_eq.mpr c4
    have c4b1 : (a0_0 != 4) = false := bne_eq_false_iff_eq.mpr c4
    clear c4
    replace H := Option.bind_eq_some_iff.mp H
    obtain ⟨t163, A50, H⟩ := H
    replace H : (if t163 < 0 then (some true) else (if 0 ≤ t163 then (if t163 < (l1.length : Int) then (some ((rd_T26 l1 t163).f2)) else (none)) else (none))) = some r := H
    have A5 := Aside0.mk A50
    clear A50
    by_cases c6 : t163 < 0
    · rw [if_pos c6] at H
      have c6b0 : decide (t163 < 0) = true := decide_eq_true c6
      clear c6
      obtain rfl := Option.some.inj H
      go_enter Try.func24, Try.ntmps24
      go_wp2_with (first | ((with_reducible refine gate_dst (N := 3) rfl ?_); refine box_event ?hg (N := 3) ?hd (cs := #[.int .i64 a0_0, .int .i64 a0_1, .int .i64 a0_2, .int .i64 a0_3, .int .i64 a0_4, .int .i64 a0_5, .int .i64 a0_6]) (t := 36) ?hr ?_; (case hd => rfl); (case hg => rfl); (case hr => first | (go_simp; done) | (go_simp; rfl)); intro gb162 hg w7 hbox hb; have n0_ := Aside0.mk (below_step (by repeat (first | (with_reducible first | exact HB.out | apply below_alloc | apply pw_below_drewN | apply below_drew1) | exact HB.out)) hb); have n1_ := Aside0.mk (hbox); have n2_ := Aside0.mk ((by rw [hg]; exact (below_size (by repeat (first | (with_reducible first | exact HB.out | apply below_alloc | apply pw_below_drewN | apply below_drew1) | exact HB.out))) : w.heap.size ≤ gb162)); have n3_ := Aside0.mk ((by rw [hg]; exact (below_size (by repeat (first | (with_reducible first | exact HB.out | apply below_alloc | apply pw_below_drewN | apply below_drew1) | exact HB.out))) : w.heap.size ≤ gb162)); clear HB; have HB := n0_; have BK162 := n1_; have GW162 := n2_; have GE162 := n3_; clear n0_ n1_ n2_ n3_; clear hb hbox hg; have hcz8_0 : w7.cell? ⟨gb162, 0, none⟩ = some (.int .i64 a0_0) := (blk_cell BK162.out 0).trans rfl; have hcz8_1 : w7.cell? ⟨gb162, 1, none⟩ = some (.int .i64 a0_1) := (blk_cell BK162.out 1).trans rfl; have hcz8_2 : w7.cell? ⟨gb162, 2, none⟩ = some (.int .i64 a0_2) := (blk_cell BK162.out 2).trans rfl; have hcz8_3 : w7.cell? ⟨gb162, 3, none⟩ = some (.int .i64 a0_3) := (blk_cell BK162.out 3).trans rfl; have hcz8_4 : w7.cell? ⟨gb162, 4, none⟩ = some (.int .i64 a0_4) := (blk_cell BK162.out 4).trans rfl; have hcz8_5 : w7.cell? ⟨gb162, 5, none⟩ = some (.int .i64 a0_5) := (blk_cell BK162.out 5).trans rfl; have hcz8_6 : w7.cell? ⟨gb162, 6, none⟩ = some (.int .i64 a0_6) := (blk_cell BK162.out 6).trans rfl; have hfz8_0 := blk_frozen BK162.out 0; have hfz8_1 := blk_frozen BK162.out 1; have hfz8_2 := blk_frozen BK162.out 2; have hfz8_3 := blk_frozen BK162.out 3; have hfz8_4 := blk_frozen BK162.out 4; have hfz8_5 := blk_frozen BK162.out 5; have hfz8_6 := blk_frozen BK162.out 6) | ((with_reducible refine gate_callee (f := 8) rfl ?_); refine goesL_ (some 15) rfl rfl Try.func8 (by kernel_rfl) rfl #[.slice A1 l1.length c1, .int .i64 a0_5] rfl (by (try simp only [List.map_toArray, List.map_cons, List.map_nil]); first | done | rfl | (simp only [List.length_drop, List.length_take]; rfl)) ?_; (with_reducible refine (palingref20_Area.calls k _ _ l1 a0_5 t163 _ ?side1 ?side2 A5.out).mono ?_); (case side1 => repeat (first | exact (Kd.C_below HR1.out HB.out) | (with_reducible refine Kd.C_alloc ?_ _) | (with_reducible refine Kd.C_drewN ?_ _) | (with_reducible refine Kd.C_drew ?_))); (case side2 => exact HC1.out); rintro e w' ⟨rfl, ⟨nd, rfl⟩⟩; refine ⟨_, rfl, ?_⟩))
      go_ret
      exact ⟨by first | rfl | (simp [errW_none, errW_some] <;> rfl) | (simp [*, errW_none, errW_some] <;> rfl), by repeat (first | (with_reducible first | exact HB.out | apply below_alloc | apply pw_below_drewN | apply below_drew1 | refine below_set ?_ GE162.out) | exact HB.out)⟩
    · rw [if_neg c6] at H
      have c6b0 : decide (t163 < 0) = false := decide_eq_false c6
      clear c6
      by_cases c9 : 0 ≤ t163
      · rw [if_pos c9] at H
        have c9b0 : decide (0 ≤ t163) = true := decide_eq_true c9
        clear c9
        by_cases c10 : t163 < (l1.length : Int)
        · rw [if_pos c10] at H
          have c10b0 : decide (t163 < (l1.length : Int)) = true := decide_eq_true c10
          clear c10
          obtain rfl := Option.some.inj H
          go_enter Try.func24, Try.ntmps24
          go_wp2_with (first | ((with_reducible refine gate_dst (N := 3) rfl ?_); refine box_event ?hg (N := 3) ?hd (cs := #[.int .i64 a0_0, .int .i64 a0_1, .int .i64 a0_2, .int .i64 a0_3, .int .i64 a0_4, .int .i64 a0_5, .int .i64 a0_6]) (t := 36) ?hr ?_; (case hd => rfl); (case hg => rfl); (case hr => first | (go_simp; done) | (go_simp; rfl)); intro gb162 hg w11 hbox hb; have n0_ := Aside0.mk (below_step (by repeat (first | (with_reducible first | exact HB.out | apply below_alloc | apply pw_below_drewN | apply below_drew1) | exact HB.out)) hb); have n1_ := Aside0.mk (hbox); have n2_ := Aside0.mk ((by rw [hg]; exact (below_size (by repeat (first | (with_reducible first | exact HB.out | apply below_alloc | apply pw_below_drewN | apply below_drew1) | exact HB.out))) : w.heap.size ≤ gb162)); have n3_ := Aside0.mk ((by rw [hg]; exact (below_size (by repeat (first | (with_reducible first | exact HB.out | apply below_alloc | apply pw_below_drewN | apply below_drew1) | exact HB.out))) : w.heap.size ≤ gb162)); clear HB; have HB := n0_; have BK162 := n1_; have GW162 := n2_; have GE162 := n3_; clear n0_ n1_ n2_ n3_; clear hb hbox hg; have hcz12_0 : w11.cell? ⟨gb162, 0, none⟩ = some (.int .i64 a0_0) := (blk_cell BK162.out 0).trans rfl; have hcz12_1 : w11.cell? ⟨gb162, 1, none⟩ = some (.int .i64 a0_1) := (blk_cell BK162.out 1).trans rfl; have hcz12_2 : w11.cell? ⟨gb162, 2, none⟩ = some (.int .i64 a0_2) := (blk_cell BK162.out 2).trans rfl; have hcz12_3 : w11.cell? ⟨gb162, 3, none⟩ = some (.int .i64 a0_3) := (blk_cell BK162.out 3).trans rfl; have hcz12_4 : w11.cell? ⟨gb162, 4, none⟩ = some (.int .i64 a0_4) := (blk_cell BK162.out 4).trans rfl; have hcz12_5 : w11.cell? ⟨gb162, 5, none⟩ = some (.int .i64 a0_5) := (blk_cell BK162.out 5).trans rfl; have hcz12_6 : w11.cell? ⟨gb162, 6, none⟩ = some (.int .i64 a0_6) := (blk_cell BK162.out 6).trans rfl; have hfz12_0 := blk_frozen BK162.out 0; have hfz12_1 := blk_frozen BK162.out 1; have hfz12_2 := blk_frozen BK162.out 2; have hfz12_3 := blk_frozen BK162.out 3; have hfz12_4 := blk_frozen BK162.out 4; have hfz12_5 := blk_frozen BK162.out 5; have hfz12_6 := blk_frozen BK162.out 6) | ((with_reducible refine gate_callee (f := 8) rfl ?_); refine goesL_ (some 15) rfl rfl Try.func8 (by kernel_rfl) rfl #[.slice A1 l1.length c1, .int .i64 a0_5] rfl (by (try simp only [List.map_toArray, List.map_cons, List.map_nil]); first | done | rfl | (simp only [List.length_drop, List.length_take]; rfl)) ?_; (with_reducible refine (palingref20_Area.calls k _ _ l1 a0_5 t163 _ ?side1 ?side2 A5.out).mono ?_); (case side1 => repeat (first | exact (Kd.C_below HR1.out HB.out) | (with_reducible refine Kd.C_alloc ?_ _) | (with_reducible refine Kd.C_drewN ?_ _) | (with_reducible refine Kd.C_drew ?_))); (case side2 => exact HC1.out); rintro e w' ⟨rfl, ⟨nd, rfl⟩⟩; refine ⟨_, rfl, ?_⟩; have p164 : 0 ≤ (t163 : Int) := of_decide_eq_true (by first | (with_reducible assumption) | assumption); have q164 : t163 < (l1.length : Int) := of_decide_eq_true (by first | (with_reducible assumption) | assumption); obtain ⟨ad164, e164, hx164_0, hx164_1, hx164_2⟩ := at_T26 HR1.out t163 p164 q164; cases e164; replace hx164_0 := (HB.out.cell (World.block_lt_of_cell? w _ hx164_0)).trans hx164_0; replace hx164_1 := (HB.out.cell (World.block_lt_of_cell? w _ hx164_1)).trans hx164_1; replace hx164_2 := (HB.out.cell (World.block_lt_of_cell? w _ hx164_2)).trans hx164_2; replace p164 := eq_true p164; replace q164 := eq_true q164))
          go_ret
          exact ⟨by first | rfl | (simp [errW_none, errW_some] <;> rfl) | (simp [*, errW_none, errW_some] <;> rfl), by repeat (first | (with_reducible first | exact HB.out | apply below_alloc | apply pw_below_drewN | apply below_drew1 | refine below_set ?_ GE162.out) | exact HB.out)⟩
        · rw [if_neg c10] at H
          exact absurd H (by simp)
      · rw [if_neg c9] at H
        exact absurd H (by simp)
  · rw [if_neg c4] at H
    have c4b0 : (a0_0 == 4) = false := beq_eq_false_iff_ne.mpr c4
    have c4b1 : (a0_0 != 4) = true := bne_iff_ne.mpr c4
    by_cases c13 : a0_0 = 1
    · rw [if_pos c13] at H
      have c13b0 : (a0_0 == 1) = true := beq_iff_eq.mpr c13
      have c13b1 : (a0_0 != 1) = false := bne_eq_false_iff_eq.mpr c13
      clear c13
      replace H := Option.bind_eq_some_iff.mp H
      obtain ⟨t165, A140, H⟩ := H
      replace H : (some t165) = some r := H
      have A14 := Aside0.mk A140
      clear A140
      obtain rfl := Option.some.inj H
      go_enter Try.func24, Try.ntmps24
      go_wp2_with (first | ((with_reducible refine gate_dst (N := 3) rfl ?_); refine box_event ?hg (N := 3) ?hd (cs := #[.int .i64 a0_0, .int .i64 a0_1, .int .i64 a0_2, .int .i64 a0_3, .int .i64 a0_4, .int .i64 a0_5, .int .i64 a0_6]) (t := 36) ?hr ?_; (case hd => rfl); (case hg => rfl); (case hr => first | (go_simp; done) | (go_simp; rfl)); intro gb162 hg w15 hbox hb; have n0_ := Aside0.mk (below_step (by repeat (first | (with_reducible first | exact HB.out | apply below_alloc | apply pw_below_drewN | apply below_drew1) | exact HB.out)) hb); have n1_ := Aside0.mk (hbox); have n2_ := Aside0.mk ((by rw [hg]; exact (below_size (by repeat (first | (with_reducible first | exact HB.out | apply below_alloc | apply pw_below_drewN | apply below_drew1) | exact HB.out))) : w.heap.size ≤ gb162)); have n3_ := Aside0.mk ((by rw [hg]; exact (below_size (by repeat (first | (with_reducible first | exact HB.out | apply below_alloc | apply pw_below_drewN | apply below_drew1) | exact HB.out))) : w.heap.size ≤ gb162)); clear HB; have HB := n0_; have BK162 := n1_; have GW162 := n2_; have GE162 := n3_; clear n0_ n1_ n2_ n3_; clear hb hbox hg; have hcz16_0 : w15.cell? ⟨gb162, 0, none⟩ = some (.int .i64 a0_0) := (blk_cell BK162.out 0).trans rfl; have hcz16_1 : w15.cell? ⟨gb162, 1, none⟩ = some (.int .i64 a0_1) := (blk_cell BK162.out 1).trans rfl; have hcz16_2 : w15.cell? ⟨gb162, 2, none⟩ = some (.int .i64 a0_2) := (blk_cell BK162.out 2).trans rfl; have hcz16_3 : w15.cell? ⟨gb162, 3, none⟩ = some (.int .i64 a0_3) := (blk_cell BK162.out 3).trans rfl; have hcz16_4 : w15.cell? ⟨gb162, 4, none⟩ = some (.int .i64 a0_4) := (blk_cell BK162.out 4).trans rfl; have hcz16_5 : w15.cell? ⟨gb162, 5, none⟩ = some (.int .i64 a0_5) := (blk_cell BK162.out 5).trans rfl; have hcz16_6 : w15.cell? ⟨gb162, 6, none⟩ = some (.int .i64 a0_6) := (blk_cell BK162.out 6).trans rfl; have hfz16_0 := blk_frozen BK162.out 0; have hfz16_1 := blk_frozen BK162.out 1; have hfz16_2 := blk_frozen BK162.out 2; have hfz16_3 := blk_frozen BK162.out 3; have hfz16_4 := blk_frozen BK162.out 4; have hfz16_5 := blk_frozen BK162.out 5; have hfz16_6 := blk_frozen BK162.out 6) | ((with_reducible refine gate_callee (f := 25) rfl ?_); refine goesL_ (some 30) rfl rfl Try.func25 (by kernel_rfl) rfl #[.slice A2 l2.length c2, .int .i64 a0_3] rfl (by (try simp only [List.map_toArray, List.map_cons, List.map_nil]); first | done | rfl | (simp only [List.length_drop, List.length_take]; rfl)) ?_; (with_reducible refine (palingref20_has.calls k _ _ l2 a0_3 t165 _ ?side1 ?side2 A14.out).mono ?_); (case side1 => repeat (first | exact (Kd.C_below HR2.out HB.out) | (with_reducible refine Kd.C_alloc ?_ _) | (with_reducible refine Kd.C_drewN ?_ _) | (with_reducible refine Kd.C_drew ?_))); (case side2 => exact HC2.out); rintro e w' ⟨rfl, ⟨nd, rfl⟩⟩; refine ⟨_, rfl, ?_⟩))
      go_ret
      exact ⟨by first | rfl | (simp [errW_none, errW_some] <;> rfl) | (simp [*, errW_none, errW_some] <;> rfl), by repeat (first | (with_reducible first | exact HB.out | apply below_alloc | apply pw_below_drewN | apply below_drew1 | refine below_set ?_ GE162.out) | exact HB.out)⟩
    · rw [if_neg c13] at H
      have c13b0 : (a0_0 == 1) = false := beq_eq_false_iff_ne.mpr c13
      have c13b1 : (a0_0 != 1) = true := bne_iff_ne.mpr c13
      have HC17 := Aside0.mk H
      clear H
      go_enter Try.func24, Try.ntmps24
      go_upto_if 31 with (first | ((with_reducible refine gate_dst (N := 3) rfl ?_); refine box_event ?hg (N := 3) ?hd (cs := #[.int .i64 a0_0, .int .i64 a0_1, .int .i64 a0_2, .int .i64 a0_3, .int .i64 a0_4, .int .i64 a0_5, .int .i64 a0_6]) (t := 36) ?hr ?_; (case hd => rfl); (case hg => rfl); (case hr => first | (go_simp; done) | (go_simp; rfl)); intro gb162 hg w18 hbox hb; have n0_ := Aside0.mk (below_step (by repeat (first | (with_reducible first | exact HB.out | apply below_alloc | apply pw_below_drewN | apply below_drew1) | exact HB.out)) hb); have n1_ := Aside0.mk (hbox); have n2_ := Aside0.mk ((by rw [hg]; exact (below_size (by repeat (first | (with_reducible first | exact HB.out | apply below_alloc | apply pw_below_drewN | apply below_drew1) | exact HB.out))) : w.heap.size ≤ gb162)); have n3_ := Aside0.mk ((by rw [hg]; exact (below_size (by repeat (first | (with_reducible first | exact HB.out | apply below_alloc | apply pw_below_drewN | apply below_drew1) | exact HB.out))) : w.heap.size ≤ gb162)); clear HB; have HB := n0_; have BK162 := n1_; have GW162 := n2_; have GE162 := n3_; clear n0_ n1_ n2_ n3_; clear hb hbox hg; have hcz19_0 : w18.cell? ⟨gb162, 0, none⟩ = some (.int .i64 a0_0) := (blk_cell BK162.out 0).trans rfl; have hcz19_1 : w18.cell? ⟨gb162, 1, none⟩ = some (.int .i64 a0_1) := (blk_cell BK162.out 1).trans rfl; have hcz19_2 : w18.cell? ⟨gb162, 2, none⟩ = some (.int .i64 a0_2) := (blk_cell BK162.out 2).trans rfl; have hcz19_3 : w18.cell? ⟨gb162, 3, none⟩ = some (.int .i64 a0_3) := (blk_cell BK162.out 3).trans rfl; have hcz19_4 : w18.cell? ⟨gb162, 4, none⟩ = some (.int .i64 a0_4) := (blk_cell BK162.out 4).trans rfl; have hcz19_5 : w18.cell? ⟨gb162, 5, none⟩ = some (.int .i64 a0_5) := (blk_cell BK162.out 5).trans rfl; have hcz19_6 : w18.cell? ⟨gb162, 6, none⟩ = some (.int .i64 a0_6) := (blk_cell BK162.out 6).trans rfl; have hfz19_0 := blk_frozen BK162.out 0; have hfz19_1 := blk_frozen BK162.out 1; have hfz19_2 := blk_frozen BK162.out 2; have hfz19_3 := blk_frozen BK162.out 3; have hfz19_4 := blk_frozen BK162.out 4; have hfz19_5 := blk_frozen BK162.out 5; have hfz19_6 := blk_frozen BK162.out 6))
      (try simp only [Act.put, List.setIfInBounds_toArray, List.set_cons_zero, List.set_cons_succ])
      go_cut [31] (fun v31 wc => ∃ (kq : Nat) (x31_16 : Bool), v31 = .bool x31_16 ∧ Aside0 (palingref20_makes.j0 kq l2 x31_16 a0_0 a0_1 a0_2 a0_3 a0_4 a0_5 a0_6 = some r) ∧ Aside0 (kq ≤ k) ∧ Aside0 (wc.heap[gb162]? = some (.cells #[.int .i64 a0_0, .int .i64 a0_1, .int .i64 a0_2, .int .i64 a0_3, .int .i64 a0_4, .int .i64 a0_5, .int .i64 a0_6] 36 (0, 0))) ∧ Aside0 (Below w.heap.size w wc))
      case first =>
        have H := HC17.out
        clear HC17
        by_cases c20 : a0_0 = 2
        · rw [if_pos c20] at H
          have c20b0 : (a0_0 == 2) = true := beq_iff_eq.mpr c20
          have c20b1 : (a0_0 != 2) = false := bne_eq_false_iff_eq.mpr c20
          clear c20
          (first | rw [c20b0] | (simp only [i64_w, i32_w]; rw [c20b0]) | skip)
          have H' := Aside0.mk H
          clear H
          go_wp2
          go_meet
          case rel => exact ⟨_, ((a0_0 == 2)), (by first | rfl | (simp; done) | (simp [*]; done)), H', ⟨by first | omega | exact Nat.le_refl _⟩, ⟨by (with_reducible repeat (first | refine blk_drewN ?_ _ | refine blk_drew ?_ | refine blk_alloc ?_ _)); exact BK162.out⟩, ⟨by repeat (first | (with_reducible first | exact HB.out | apply below_alloc | apply pw_below_drewN | apply below_drew1 | refine below_set ?_ GE162.out) | exact HB.out)⟩⟩
        · rw [if_neg c20] at H
          have c20b0 : (a0_0 == 2) = false := beq_eq_false_iff_ne.mpr c20
          have c20b1 : (a0_0 != 2) = true := bne_iff_ne.mpr c20
          (first | rw [c20b0] | (simp only [i64_w, i32_w]; rw [c20b0]) | skip)
          have H' := Aside0.mk H
          clear H
          go_wp2
          go_meet
          case rel => exact ⟨_, ((a0_0 == 3)), (by first | rfl | (simp; done) | (simp [*]; done)), H', ⟨by first | omega | exact Nat.le_refl _⟩, ⟨by (with_reducible repeat (first | refine blk_drewN ?_ _ | refine blk_drew ?_ | refine blk_alloc ?_ _)); exact BK162.out⟩, ⟨by repeat (first | (with_reducible first | exact HB.out | apply below_alloc | apply pw_below_drewN | apply below_drew1 | refine below_set ?_ GE162.out) | exact HB.out)⟩⟩
      case rest =>
        clear HC17
        try clear c1
        try clear p1
        try clear q1
        try clear hx1
        try clear c2
        try clear p2
        try clear c4
        try clear c4b0
        try clear c4b1
        try clear c6
        try clear c6b0
        try clear c8
        try clear c9
        try clear c9b0
        try clear c10
        try clear c10b0
        try clear c13
        try clear c13b0
        try clear c13b1
        try clear p16
        try clear q16
        try clear hx16
        try clear c20
        try clear c20b0
        try clear c20b1
        try clear hcz12_0
        try clear hcz12_1
        try clear hcz12_2
        try clear hcz12_3
        try clear hcz12_4
        try clear hcz12_5
        try clear hcz12_6
        try clear hcz16_0
        try clear hcz16_1
        try clear hcz16_2
        try clear hcz16_3
        try clear hcz16_4
        try clear hcz16_5
        try clear hcz16_6
        try clear hcz19_0
        try clear hcz19_1
        try clear hcz19_2
        try clear hcz19_3
        try clear hcz19_4
        try clear hcz19_5
        try clear hcz19_6
        try clear hcz8_0
        try clear hcz8_1
        try clear hcz8_2
        try clear hcz8_3
        try clear hcz8_4
        try clear hcz8_5
        try clear hcz8_6
        try clear hfz12_0
        try clear hfz12_1
        try clear hfz12_2
        try clear hfz12_3
        try clear hfz12_4
        try clear hfz12_5
        try clear hfz12_6
        try clear hfz16_0
        try clear hfz16_1
        try clear hfz16_2
        try clear hfz16_3
        try clear hfz16_4
        try clear hfz16_5
        try clear hfz16_6
        try clear hfz19_0
        try clear hfz19_1
        try clear hfz19_2
        try clear hfz19_3
        try clear hfz19_4
        try clear hfz19_5
        try clear hfz19_6
        try clear hfz8_0
        try clear hfz8_1
        try clear hfz8_2
        try clear hfz8_3
        try clear hfz8_4
        try clear hfz8_5
        try clear hfz8_6
        try clear hx164_0
        try clear hx164_1
        try clear hx164_2
        try clear p164
        try clear q164
        obtain ⟨kq, x31_16, rfl, HA, HJ16, BK162, HB⟩ := hcut
        cases kq with
        | zero => exact absurd HA.out (by simp [palingref20_makes.j0])
        | succ kj16 =>
          have H := HA.out
          clear HA
          simp only [palingref20_makes.j0] at H
          by_cases c21 : x31_16 = true
          · subst c21
            have H1 : ((palingref20_has.f kj16 l2 a0_3).bind fun t166 => (if t166 = true then (some true) else ((palingref20_has.f kj16 l2 a0_4).bind fun t167 => (some t167)))) = some r := by rw [if_pos rfl] at H; exact H
            clear H
            have H := H1
            clear H1
            replace H := Option.bind_eq_some_iff.mp H
            obtain ⟨t166, A220, H⟩ := H
            replace H : (if t166 = true then (some true) else ((palingref20_has.f kj16 l2 a0_4).bind fun t167 => (some t167))) = some r := H
            have A22 := Aside0.mk A220
            clear A220
            by_cases c23 : t166 = true
            · subst c23
              have H1 : (some true) = some r := by rw [if_pos rfl] at H; exact H
              clear H
              have H := H1
              clear H1
              obtain rfl := Option.some.inj H
              have hcz24_0 : wc.cell? ⟨gb162, 0, none⟩ = some (.int .i64 a0_0) := (blk_cell BK162.out 0).trans rfl
              have hcz24_1 : wc.cell? ⟨gb162, 1, none⟩ = some (.int .i64 a0_1) := (blk_cell BK162.out 1).trans rfl
              have hcz24_2 : wc.cell? ⟨gb162, 2, none⟩ = some (.int .i64 a0_2) := (blk_cell BK162.out 2).trans rfl
              have hcz24_3 : wc.cell? ⟨gb162, 3, none⟩ = some (.int .i64 a0_3) := (blk_cell BK162.out 3).trans rfl
              have hcz24_4 : wc.cell? ⟨gb162, 4, none⟩ = some (.int .i64 a0_4) := (blk_cell BK162.out 4).trans rfl
              have hcz24_5 : wc.cell? ⟨gb162, 5, none⟩ = some (.int .i64 a0_5) := (blk_cell BK162.out 5).trans rfl
              have hcz24_6 : wc.cell? ⟨gb162, 6, none⟩ = some (.int .i64 a0_6) := (blk_cell BK162.out 6).trans rfl
              have hfz24_0 := blk_frozen BK162.out 0
              have hfz24_1 := blk_frozen BK162.out 1
              have hfz24_2 := blk_frozen BK162.out 2
              have hfz24_3 := blk_frozen BK162.out 3
              have hfz24_4 := blk_frozen BK162.out 4
              have hfz24_5 := blk_frozen BK162.out 5
              have hfz24_6 := blk_frozen BK162.out 6
              go_wp2_with (first | ((with_reducible refine gate_callee (f := 25) rfl ?_); refine goesL_ (some 37) rfl rfl Try.func25 (by kernel_rfl) rfl #[.slice A2 l2.length c2, .int .i64 a0_3] rfl (by (try simp only [List.map_toArray, List.map_cons, List.map_nil]); first | done | rfl | (simp only [List.length_drop, List.length_take]; rfl)) ?_; (with_reducible refine (palingref20_has.calls kj16 _ _ l2 a0_3 true _ ?side1 ?side2 A22.out).mono ?_); (case side1 => repeat (first | exact (Kd.C_below HR2.out HB.out) | (with_reducible refine Kd.C_alloc ?_ _) | (with_reducible refine Kd.C_drewN ?_ _) | (with_reducible refine Kd.C_drew ?_))); (case side2 => exact HC2.out); rintro e w' ⟨rfl, ⟨nd, rfl⟩⟩; refine ⟨_, rfl, ?_⟩))
              go_ret
              exact ⟨by first | rfl | (simp [errW_none, errW_some] <;> rfl) | (simp [*, errW_none, errW_some] <;> rfl), by repeat (first | (with_reducible first | exact HB.out | apply below_alloc | apply pw_below_drewN | apply below_drew1 | refine below_set ?_ GE162.out) | exact HB.out)⟩
            · replace c23 := Bool.eq_false_iff.mpr c23
              subst c23
              have H1 : ((palingref20_has.f kj16 l2 a0_4).bind fun t167 => (some t167)) = some r := by rw [if_neg (show ¬ (false = true) by decide)] at H; exact H
              clear H
              have H := H1
              clear H1
              replace H := Option.bind_eq_some_iff.mp H
              obtain ⟨t167, A250, H⟩ := H
              replace H : (some t167) = some r := H
              have A25 := Aside0.mk A250
              clear A250
              obtain rfl := Option.some.inj H
              have hcz26_0 : wc.cell? ⟨gb162, 0, none⟩ = some (.int .i64 a0_0) := (blk_cell BK162.out 0).trans rfl
              have hcz26_1 : wc.cell? ⟨gb162, 1, none⟩ = some (.int .i64 a0_1) := (blk_cell BK162.out 1).trans rfl
              have hcz26_2 : wc.cell? ⟨gb162, 2, none⟩ = some (.int .i64 a0_2) := (blk_cell BK162.out 2).trans rfl
              have hcz26_3 : wc.cell? ⟨gb162, 3, none⟩ = some (.int .i64 a0_3) := (blk_cell BK162.out 3).trans rfl
              have hcz26_4 : wc.cell? ⟨gb162, 4, none⟩ = some (.int .i64 a0_4) := (blk_cell BK162.out 4).trans rfl
              have hcz26_5 : wc.cell? ⟨gb162, 5, none⟩ = some (.int .i64 a0_5) := (blk_cell BK162.out 5).trans rfl
              have hcz26_6 : wc.cell? ⟨gb162, 6, none⟩ = some (.int .i64 a0_6) := (blk_cell BK162.out 6).trans rfl
              have hfz26_0 := blk_frozen BK162.out 0
              have hfz26_1 := blk_frozen BK162.out 1
              have hfz26_2 := blk_frozen BK162.out 2
              have hfz26_3 := blk_frozen BK162.out 3
              have hfz26_4 := blk_frozen BK162.out 4
              have hfz26_5 := blk_frozen BK162.out 5
              have hfz26_6 := blk_frozen BK162.out 6
              go_wp2_with (first | ((with_reducible refine gate_callee (f := 25) rfl ?_); refine goesL_ (some 37) rfl rfl Try.func25 (by kernel_rfl) rfl #[.slice A2 l2.length c2, .int .i64 a0_3] rfl (by (try simp only [List.map_toArray, List.map_cons, List.map_nil]); first | done | rfl | (simp only [List.length_drop, List.length_take]; rfl)) ?_; (with_reducible refine (palingref20_has.calls kj16 _ _ l2 a0_3 false _ ?side1 ?side2 A22.out).mono ?_); (case side1 => repeat (first | exact (Kd.C_below HR2.out HB.out) | (with_reducible refine Kd.C_alloc ?_ _) | (with_reducible refine Kd.C_drewN ?_ _) | (with_reducible refine Kd.C_drew ?_))); (case side2 => exact HC2.out); rintro e w' ⟨rfl, ⟨nd, rfl⟩⟩; refine ⟨_, rfl, ?_⟩) | (go_at_call 25; (with_reducible refine (palingref20_has.calls kj16 _ _ l2 a0_4 t167 _ ?side1 ?side2 A25.out).mono ?_); (case side1 => repeat (first | exact (Kd.C_below HR2.out (by repeat (first | (with_reducible first | exact HB.out | apply below_alloc | apply pw_below_drewN | apply below_drew1 | refine below_set ?_ GE162.out) | exact HB.out))) | (with_reducible refine Kd.C_alloc ?_ _) | (with_reducible refine Kd.C_drewN ?_ _) | (with_reducible refine Kd.C_drew ?_))); (case side2 => exact HC2.out); rintro e w' ⟨rfl, ⟨nd, rfl⟩⟩))
              go_ret
              exact ⟨by first | rfl | (simp [errW_none, errW_some] <;> rfl) | (simp [*, errW_none, errW_some] <;> rfl), by repeat (first | (with_reducible first | exact HB.out | apply below_alloc | apply pw_below_drewN | apply below_drew1 | refine below_set ?_ GE162.out) | exact HB.out)⟩
          · replace c21 := Bool.eq_false_iff.mpr c21
            subst c21
            have H1 : (some false) = some r := by rw [if_neg (show ¬ (false = true) by decide)] at H; exact H
            clear H
            have H := H1
            clear H1
            obtain rfl := Option.some.inj H
            go_wp2
            go_ret
            exact ⟨by first | rfl | (simp [errW_none, errW_some] <;> rfl) | (simp [*, errW_none, errW_some] <;> rfl), by repeat (first | (with_reducible first | exact HB.out | apply below_alloc | apply pw_below_drewN | apply below_drew1 | refine below_set ?_ GE162.out) | exact HB.out)⟩

end Go.Proofs.Ytndhhnhhnkkpbaa.PLevelTells
