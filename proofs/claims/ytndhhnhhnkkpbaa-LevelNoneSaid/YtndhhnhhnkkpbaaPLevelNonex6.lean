-- Written by print2.py over the kit's printer. Not trusted: Lean checks it.
import Derived.Test.YtndhhnhhnkkpbaaPLevelNonehappend2
import Derived.Test.YtndhhnhhnkkpbaaPLevelNonex0
import Derived.Test.YtndhhnhhnkkpbaaPLevelNonex1
import Derived.Test.YtndhhnhhnkkpbaaPLevelNonex2
import Derived.Test.YtndhhnhhnkkpbaaPLevelNonex5
import Derived.Test.YtndhhnhhnkkpbaaPLevelNonehsecret
namespace Go.Proofs.Ytndhhnhhnkkpbaa.PLevelNone
open Go.RowKit Go.Proofs.YtndhhnhhnkkpbaaW.PrintWords Go.Proofs.YtndhhnhhnkkpbaaW.PrintLast Go.Proofs.YtndhhnhhnkkpbaaW.PrintMore
attribute [local go_sem] max2_int min2_int max_two min_two max_three min_three max_four min_four   -- for this text's walks alone
set_option linter.unusedVariables false
set_option linter.unusedSimpArgs false

/-! ### palinglaw20_LevelNone: function 5 -/
mutual
def palinglaw20_LevelNone.j0 : Nat → List (S36) → List (S26) → Int → Bool → Option (Bool)
  | 0, _, _, _, _ => none
  | k + 1, x0, x1, x2, x36 => if x36 = true then (some true) else ((level_Secret.f k x0 x1).bind fun t162 => (palinglaw20_LevelNone.l0 k x0 x1 (Int.tmod (wrap64 (x2)) 30) (Int.tmod (wrap64 (Int.tdiv (wrap64 (x2)) 30)) 30) t162 false 0))
def palinglaw20_LevelNone.l0 : Nat → List (S36) → List (S26) → Int → Int → List Int → Bool → Int → Option (Bool)
  | 0, _, _, _, _, _, _, _ => none
  | k + 1, x0, x1, x8, x9, x10, x11, x12 => if x12 < (x0.length : Int) then (if x11 = true then (palinglaw20_LevelNone.l0 k x0 x1 x8 x9 x10 true (wrap64 (x12 + 1))) else (if 0 ≤ x12 then (palinglaw20_LevelNone.l0 k x0 x1 x8 x9 x10 (((rd_T36 x0 x12).f0) == 4) (wrap64 (x12 + 1))) else (none))) else (if ([] : List (S36)).length + x0.length < 2513169434916 then ((some (([] : List (S36)) ++ x0 : List (S36))).bind fun y166 => (if y166.length < 2513169434916 then ((level_Secret.f k (y166 ++ [(⟨1, 0, Int.tmod x9 30, Int.tmod x8 30, 0, 0, 0⟩ : S36)]) x1).bind fun t172 => ((palinglaw20_has.f k x10 x8).bind fun t175 => (if t175 = true then ((palinglaw20_has.f k t172 x9).bind fun t176 => (if t176 = true then ((palinglaw20_has.f k x10 x8).bind fun t177 => (if t177 = true then (palinglaw20_LevelNone.j2 k x10 x11 t172 false) else ((palingref14_Ints.f k x10 t172).bind fun t178 => (palinglaw20_LevelNone.j2 k x10 x11 t172 (!t178))))) else (palinglaw20_LevelNone.j2 k x10 x11 t172 true))) else ((palinglaw20_has.f k x10 x8).bind fun t179 => (if t179 = true then (palinglaw20_LevelNone.j2 k x10 x11 t172 false) else ((palingref14_Ints.f k x10 t172).bind fun t180 => (palinglaw20_LevelNone.j2 k x10 x11 t172 (!t180)))))))) else (none))) else (none))
def palinglaw20_LevelNone.j2 : Nat → List Int → Bool → List Int → Bool → Option (Bool)
  | 0, _, _, _, _ => none
  | k + 1, x10, x11, x14, x96 => if x96 = true then (some false) else (palinglaw20_LevelNone.l1 k x10 x11 x14 0)
def palinglaw20_LevelNone.l1 : Nat → List Int → Bool → List Int → Int → Option (Bool)
  | 0, _, _, _, _ => none
  | k + 1, x10, x11, x14, x15 => if x15 < (x10.length : Int) then (if 0 ≤ x15 then ((palinglaw20_has.f k x14 (rd x10 x15)).bind fun t182 => (if t182 = true then (palinglaw20_LevelNone.l1 k x10 x11 x14 (wrap64 (x15 + 1))) else (some false))) else (none)) else (if x11 = true then (some true) else (some ((x10.length : Int) == 0)))
end
def palinglaw20_LevelNone.f (k : Nat) (l0 : List (S36)) (l1 : List (S26)) (a2 : Int) : Option (Bool) := (palinglaw20_awake.f k).bind fun t159 => (if t159 = true then (if (l0.length : Int) > 60 then (palinglaw20_LevelNone.j0 k l0 l1 a2 true) else (if (l1.length : Int) > 30 then (palinglaw20_LevelNone.j0 k l0 l1 a2 true) else ((palingref11_Check.f k l0 30 9).bind fun t160 => (if t160 = true then ((palingref20_Right.f k l1 65536).bind fun t161 => (palinglaw20_LevelNone.j0 k l0 l1 a2 (!t161))) else (palinglaw20_LevelNone.j0 k l0 l1 a2 true))))) else (some false))
theorem palinglaw20_LevelNone.mono_l : ∀ k, (∀ y0 y1 y2 y3, LeO (palinglaw20_LevelNone.j0 k y0 y1 y2 y3) (palinglaw20_LevelNone.j0 (k + 1) y0 y1 y2 y3)) ∧ (∀ y0 y1 y2 y3 y4 y5 y6, LeO (palinglaw20_LevelNone.l0 k y0 y1 y2 y3 y4 y5 y6) (palinglaw20_LevelNone.l0 (k + 1) y0 y1 y2 y3 y4 y5 y6)) ∧ (∀ y0 y1 y2 y3, LeO (palinglaw20_LevelNone.j2 k y0 y1 y2 y3) (palinglaw20_LevelNone.j2 (k + 1) y0 y1 y2 y3)) ∧ (∀ y0 y1 y2 y3, LeO (palinglaw20_LevelNone.l1 k y0 y1 y2 y3) (palinglaw20_LevelNone.l1 (k + 1) y0 y1 y2 y3))
  | 0 => ⟨fun _ _ _ _ r h => by simp [palinglaw20_LevelNone.j0] at h, fun _ _ _ _ _ _ _ r h => by simp [palinglaw20_LevelNone.l0] at h, fun _ _ _ _ r h => by simp [palinglaw20_LevelNone.j2] at h, fun _ _ _ _ r h => by simp [palinglaw20_LevelNone.l1] at h⟩
  | k + 1 => by
    obtain ⟨ih0, ih1, ih2, ih3⟩ := palinglaw20_LevelNone.mono_l k
    refine ⟨?_, ?_, ?_, ?_⟩
    · intro y0 y1 y2 y3
      unfold palinglaw20_LevelNone.j0
      repeat' first
      | (with_reducible exact ih0 _ _ _ _)
      | (with_reducible exact ih1 _ _ _ _ _ _ _)
      | (with_reducible exact ih2 _ _ _ _)
      | (with_reducible exact ih3 _ _ _ _)
      | (with_reducible exact level_Secret.mono _ _ _)
      | (with_reducible exact palinglaw20_awake.mono _)
      | (with_reducible exact palinglaw20_has.mono _ _ _)
      | (with_reducible exact palingref11_Check.mono _ _ _ _)
      | (with_reducible exact palingref14_Ints.mono _ _ _)
      | (with_reducible exact palingref20_Right.mono _ _ _)
      | (with_reducible exact LeO.refl _)
      | (with_reducible exact LeO.none _)
      | (with_reducible refine LeO.ite ?_ ?_)
      | (with_reducible refine LeO.bind ?_ (fun _ => ?_))
      | exact ih0 _ _ _ _
      | exact ih1 _ _ _ _ _ _ _
      | exact ih2 _ _ _ _
      | exact ih3 _ _ _ _
      | exact level_Secret.mono _ _ _
      | exact palinglaw20_awake.mono _
      | exact palinglaw20_has.mono _ _ _
      | exact palingref11_Check.mono _ _ _ _
      | exact palingref14_Ints.mono _ _ _
      | exact palingref20_Right.mono _ _ _
      | exact LeO.none _
      | refine LeO.ite ?_ ?_
      | refine LeO.bind ?_ (fun _ => ?_)
    · intro y0 y1 y2 y3 y4 y5 y6
      unfold palinglaw20_LevelNone.l0
      repeat' first
      | (with_reducible exact ih0 _ _ _ _)
      | (with_reducible exact ih1 _ _ _ _ _ _ _)
      | (with_reducible exact ih2 _ _ _ _)
      | (with_reducible exact ih3 _ _ _ _)
      | (with_reducible exact level_Secret.mono _ _ _)
      | (with_reducible exact palinglaw20_awake.mono _)
      | (with_reducible exact palinglaw20_has.mono _ _ _)
      | (with_reducible exact palingref11_Check.mono _ _ _ _)
      | (with_reducible exact palingref14_Ints.mono _ _ _)
      | (with_reducible exact palingref20_Right.mono _ _ _)
      | (with_reducible exact LeO.refl _)
      | (with_reducible exact LeO.none _)
      | (with_reducible refine LeO.ite ?_ ?_)
      | (with_reducible refine LeO.bind ?_ (fun _ => ?_))
      | exact ih0 _ _ _ _
      | exact ih1 _ _ _ _ _ _ _
      | exact ih2 _ _ _ _
      | exact ih3 _ _ _ _
      | exact level_Secret.mono _ _ _
      | exact palinglaw20_awake.mono _
      | exact palinglaw20_has.mono _ _ _
      | exact palingref11_Check.mono _ _ _ _
      | exact palingref14_Ints.mono _ _ _
      | exact palingref20_Right.mono _ _ _
      | exact LeO.none _
      | refine LeO.ite ?_ ?_
      | refine LeO.bind ?_ (fun _ => ?_)
    · intro y0 y1 y2 y3
      unfold palinglaw20_LevelNone.j2
      repeat' first
      | (with_reducible exact ih0 _ _ _ _)
      | (with_reducible exact ih1 _ _ _ _ _ _ _)
      | (with_reducible exact ih2 _ _ _ _)
      | (with_reducible exact ih3 _ _ _ _)
      | (with_reducible exact level_Secret.mono _ _ _)
      | (with_reducible exact palinglaw20_awake.mono _)
      | (with_reducible exact palinglaw20_has.mono _ _ _)
      | (with_reducible exact palingref11_Check.mono _ _ _ _)
      | (with_reducible exact palingref14_Ints.mono _ _ _)
      | (with_reducible exact palingref20_Right.mono _ _ _)
      | (with_reducible exact LeO.refl _)
      | (with_reducible exact LeO.none _)
      | (with_reducible refine LeO.ite ?_ ?_)
      | (with_reducible refine LeO.bind ?_ (fun _ => ?_))
      | exact ih0 _ _ _ _
      | exact ih1 _ _ _ _ _ _ _
      | exact ih2 _ _ _ _
      | exact ih3 _ _ _ _
      | exact level_Secret.mono _ _ _
      | exact palinglaw20_awake.mono _
      | exact palinglaw20_has.mono _ _ _
      | exact palingref11_Check.mono _ _ _ _
      | exact palingref14_Ints.mono _ _ _
      | exact palingref20_Right.mono _ _ _
      | exact LeO.none _
      | refine LeO.ite ?_ ?_
      | refine LeO.bind ?_ (fun _ => ?_)
    · intro y0 y1 y2 y3
      unfold palinglaw20_LevelNone.l1
      repeat' first
      | (with_reducible exact ih0 _ _ _ _)
      | (with_reducible exact ih1 _ _ _ _ _ _ _)
      | (with_reducible exact ih2 _ _ _ _)
      | (with_reducible exact ih3 _ _ _ _)
      | (with_reducible exact level_Secret.mono _ _ _)
      | (with_reducible exact palinglaw20_awake.mono _)
      | (with_reducible exact palinglaw20_has.mono _ _ _)
      | (with_reducible exact palingref11_Check.mono _ _ _ _)
      | (with_reducible exact palingref14_Ints.mono _ _ _)
      | (with_reducible exact palingref20_Right.mono _ _ _)
      | (with_reducible exact LeO.refl _)
      | (with_reducible exact LeO.none _)
      | (with_reducible refine LeO.ite ?_ ?_)
      | (with_reducible refine LeO.bind ?_ (fun _ => ?_))
      | exact ih0 _ _ _ _
      | exact ih1 _ _ _ _ _ _ _
      | exact ih2 _ _ _ _
      | exact ih3 _ _ _ _
      | exact level_Secret.mono _ _ _
      | exact palinglaw20_awake.mono _
      | exact palinglaw20_has.mono _ _ _
      | exact palingref11_Check.mono _ _ _ _
      | exact palingref14_Ints.mono _ _ _
      | exact palingref20_Right.mono _ _ _
      | exact LeO.none _
      | refine LeO.ite ?_ ?_
      | refine LeO.bind ?_ (fun _ => ?_)
theorem palinglaw20_LevelNone.mono : ∀ a0 a1 a2 k, LeO (palinglaw20_LevelNone.f k a0 a1 a2) (palinglaw20_LevelNone.f (k + 1) a0 a1 a2) := by
  intro a0 a1 a2 k
  obtain ⟨ih0, ih1, ih2, ih3⟩ := palinglaw20_LevelNone.mono_l k
  unfold palinglaw20_LevelNone.f
  repeat' first
      | (with_reducible exact ih0 _ _ _ _)
      | (with_reducible exact ih1 _ _ _ _ _ _ _)
      | (with_reducible exact ih2 _ _ _ _)
      | (with_reducible exact ih3 _ _ _ _)
      | (with_reducible exact level_Secret.mono _ _ _)
      | (with_reducible exact palinglaw20_awake.mono _)
      | (with_reducible exact palinglaw20_has.mono _ _ _)
      | (with_reducible exact palingref11_Check.mono _ _ _ _)
      | (with_reducible exact palingref14_Ints.mono _ _ _)
      | (with_reducible exact palingref20_Right.mono _ _ _)
      | (with_reducible exact LeO.refl _)
      | (with_reducible exact LeO.none _)
      | (with_reducible refine LeO.ite ?_ ?_)
      | (with_reducible refine LeO.bind ?_ (fun _ => ?_))
      | exact ih0 _ _ _ _
      | exact ih1 _ _ _ _ _ _ _
      | exact ih2 _ _ _ _
      | exact ih3 _ _ _ _
      | exact level_Secret.mono _ _ _
      | exact palinglaw20_awake.mono _
      | exact palinglaw20_has.mono _ _ _
      | exact palingref11_Check.mono _ _ _ _
      | exact palingref14_Ints.mono _ _ _
      | exact palingref20_Right.mono _ _ _
      | exact LeO.none _
      | refine LeO.ite ?_ ?_
      | refine LeO.bind ?_ (fun _ => ?_)
set_option maxHeartbeats 8000000 in
set_option maxRecDepth 100000 in
theorem palinglaw20_LevelNone.calls (k : Nat) (A0 : Option Addr) (c0 : Nat) (l0 : List (S36)) (A1 : Option Addr) (c1 : Nat) (l1 : List (S26)) (a2 : Int) (r : Bool) (w : World) (hr0 : Kd.C k36 w A0 l0.length l0) (hc0 : l0.length ≤ c0) (hr1 : Kd.C k26 w A1 l1.length l1) (hc1 : l1.length ≤ c1) (h : palinglaw20_LevelNone.f k l0 l1 a2 = some r) :
    Calls Try.prog 5 #[.slice A0 l0.length c0, .slice A1 l1.length c1, .int .u16 a2] w fun e w' => e = .returned (.bool r) ∧ Below w.heap.size w w' := by
  have hu36 := Try.underlying36
  have HR0 := Aside0.mk hr0
  have HC0 := Aside0.mk hc0
  clear hr0 hc0
  have HR1 := Aside0.mk hr1
  have HC1 := Aside0.mk hc1
  clear hr1 hc1
  have HB := Aside0.mk (Below.refl w.heap.size w)
  have H : ((palinglaw20_awake.f k).bind fun t159 => (if t159 = true then (if (l0.length : Int) > 60 then (palinglaw20_LevelNone.j0 k l0 l1 a2 true) else (if (l1.length : Int) > 30 then (palinglaw20_LevelNone.j0 k l0 l1 a2 true) else ((palingref11_Check.f k l0 30 9).bind fun t160 => (if t160 = true then ((palingref20_Right.f k l1 65536).bind fun t161 => (palinglaw20_LevelNone.j0 k l0 l1 a2 (!t161))) else (palinglaw20_LevelNone.j0 k l0 l1 a2 true))))) else (some false))) = some r := h
  clear h
  replace H := Option.bind_eq_some_iff.mp H
  obtain ⟨t159, A40, H⟩ := H
  replace H : (if t159 = true then (if (l0.length : Int) > 60 then (palinglaw20_LevelNone.j0 k l0 l1 a2 true) else (if (l1.length : Int) > 30 then (palinglaw20_LevelNone.j0 k l0 l1 a2 true) else ((palingref11_Check.f k l0 30 9).bind fun t160 => (if t160 = true then ((palingref20_Right.f k l1 65536).bind fun t161 => (palinglaw20_LevelNone.j0 k l0 l1 a2 (!t161))) else (palinglaw20_LevelNone.j0 k l0 l1 a2 true))))) else (some false)) = some r := H
  have A4 := Aside0.mk A40
  clear A40
  by_cases c5 : t159 = true
  · subst c5
    have H1 : (if (l0.length : Int) > 60 then (palinglaw20_LevelNone.j0 k l0 l1 a2 true) else (if (l1.length : Int) > 30 then (palinglaw20_LevelNone.j0 k l0 l1 a2 true) else ((palingref11_Check.f k l0 30 9).bind fun t160 => (if t160 = true then ((palingref20_Right.f k l1 65536).bind fun t161 => (palinglaw20_LevelNone.j0 k l0 l1 a2 (!t161))) else (palinglaw20_LevelNone.j0 k l0 l1 a2 true))))) = some r := by rw [if_pos rfl] at H; exact H
    clear H
    have H := H1
    clear H1
    have HC6 := Aside0.mk H
    clear H
    go_enter Try.func5, Try.ntmps5
    go_upto_region 4 with (first | ((with_reducible refine gate_callee (f := 6) rfl ?_); refine goesL_ (some 16) rfl rfl Try.func6 (by kernel_rfl) rfl #[] rfl (by (try simp only [List.map_toArray, List.map_cons, List.map_nil]); first | done | rfl | (simp only [List.length_drop, List.length_take]; rfl)) ?_; (with_reducible refine (palinglaw20_awake.calls k  true _ A4.out).mono ?_); rintro e w7 ⟨rfl, hb⟩; refine ⟨_, rfl, ?_⟩; have n0_ := Aside0.mk (below_step (by repeat (first | (with_reducible first | exact HB.out | apply below_alloc | apply pw_below_drewN | apply below_drew1) | exact HB.out)) hb); clear HB; have HB := n0_; clear n0_; (try clear hb); (try clear hb2); (try clear hk); (try clear hi)))
    (try simp only [Act.put, List.setIfInBounds_toArray, List.set_cons_zero, List.set_cons_succ])
    go_cut [36] (fun v36 wc => ∃ (kq : Nat) (x36_5 : Bool), v36 = .bool x36_5 ∧ Aside0 (palinglaw20_LevelNone.j0 kq l0 l1 a2 x36_5 = some r) ∧ Aside0 (kq ≤ k) ∧ Aside0 (Below w.heap.size w wc))
    case first =>
      have H := HC6.out
      clear HC6
      by_cases c8 : (l0.length : Int) > 60
      · rw [if_pos c8] at H
        have c8b0 : decide (60 < (l0.length : Int)) = true := decide_eq_true c8
        have c8b1 : decide (60 < l0.length) = true := decide_eq_true (by omega)
        clear c8
        (first | rw [c8b0] | (simp only [i64_w, i32_w]; rw [c8b0]) | skip)
        have H' := Aside0.mk H
        clear H
        go_wp2
        go_meet
        case rel => exact ⟨_, (true), (by first | rfl | (simp; done) | (simp [*]; done)), H', ⟨by first | omega | exact Nat.le_refl _⟩, ⟨by repeat (first | (with_reducible first | exact HB.out | apply below_alloc | apply pw_below_drewN | apply below_drew1) | exact HB.out)⟩⟩
      · rw [if_neg c8] at H
        have c8b0 : decide (60 < (l0.length : Int)) = false := decide_eq_false c8
        have c8b1 : decide (60 < l0.length) = false := decide_eq_false (by omega)
        clear c8
        (first | rw [c8b0] | (simp only [i64_w, i32_w]; rw [c8b0]) | skip)
        by_cases c9 : (l1.length : Int) > 30
        · rw [if_pos c9] at H
          have c9b0 : decide (30 < (l1.length : Int)) = true := decide_eq_true c9
          have c9b1 : decide (30 < l1.length) = true := decide_eq_true (by omega)
          clear c9
          have H' := Aside0.mk H
          clear H
          go_wp2
          go_meet
          case rel => exact ⟨_, (true), (by first | rfl | (simp; done) | (simp [*]; done)), H', ⟨by first | omega | exact Nat.le_refl _⟩, ⟨by repeat (first | (with_reducible first | exact HB.out | apply below_alloc | apply pw_below_drewN | apply below_drew1) | exact HB.out)⟩⟩
        · rw [if_neg c9] at H
          have c9b0 : decide (30 < (l1.length : Int)) = false := decide_eq_false c9
          have c9b1 : decide (30 < l1.length) = false := decide_eq_false (by omega)
          clear c9
          replace H := Option.bind_eq_some_iff.mp H
          obtain ⟨t160, A100, H⟩ := H
          replace H : (if t160 = true then ((palingref20_Right.f k l1 65536).bind fun t161 => (palinglaw20_LevelNone.j0 k l0 l1 a2 (!t161))) else (palinglaw20_LevelNone.j0 k l0 l1 a2 true)) = some r := H
          have A10 := Aside0.mk A100
          clear A100
          by_cases c11 : t160 = true
          · subst c11
            have H1 : ((palingref20_Right.f k l1 65536).bind fun t161 => (palinglaw20_LevelNone.j0 k l0 l1 a2 (!t161))) = some r := by rw [if_pos rfl] at H; exact H
            clear H
            have H := H1
            clear H1
            replace H := Option.bind_eq_some_iff.mp H
            obtain ⟨t161, A120, H⟩ := H
            replace H : (palinglaw20_LevelNone.j0 k l0 l1 a2 (!t161)) = some r := H
            have A12 := Aside0.mk A120
            clear A120
            have H' := Aside0.mk H
            clear H
            go_wp2_with (first | (go_at_call 11; (with_reducible refine (palingref11_Check.calls k _ _ l0 30 9 true _ ?side1 ?side2 A10.out).mono ?_); (case side1 => repeat (first | exact (Kd.C_below HR0.out HB.out) | (with_reducible refine Kd.C_alloc ?_ _) | (with_reducible refine Kd.C_drewN ?_ _) | (with_reducible refine Kd.C_drew ?_))); (case side2 => exact HC0.out); rintro e w13 ⟨rfl, hb⟩; have n0_ := Aside0.mk (below_step (by repeat (first | (with_reducible first | exact HB.out | apply below_alloc | apply pw_below_drewN | apply below_drew1) | exact HB.out)) hb); clear HB; have HB := n0_; clear n0_; (try clear hb); (try clear hb2); (try clear hk); (try clear hi)) | (go_at_call 10; (with_reducible refine (palingref20_Right.calls k _ _ l1 65536 t161 _ ?side1 ?side2 A12.out).mono ?_); (case side1 => repeat (first | exact (Kd.C_below HR1.out HB.out) | (with_reducible refine Kd.C_alloc ?_ _) | (with_reducible refine Kd.C_drewN ?_ _) | (with_reducible refine Kd.C_drew ?_))); (case side2 => exact HC1.out); rintro e w' ⟨rfl, ⟨nd, rfl⟩⟩))
            go_meet
            case rel => exact ⟨_, (!t161), (by first | rfl | (simp; done) | (simp [*]; done)), H', ⟨by first | omega | exact Nat.le_refl _⟩, ⟨by repeat (first | (with_reducible first | exact HB.out | apply below_alloc | apply pw_below_drewN | apply below_drew1) | exact HB.out)⟩⟩
          · replace c11 := Bool.eq_false_iff.mpr c11
            subst c11
            have H1 : (palinglaw20_LevelNone.j0 k l0 l1 a2 true) = some r := by rw [if_neg (show ¬ (false = true) by decide)] at H; exact H
            clear H
            have H := H1
            clear H1
            have H' := Aside0.mk H
            clear H
            go_wp2_with (first | (go_at_call 11; (with_reducible refine (palingref11_Check.calls k _ _ l0 30 9 false _ ?side1 ?side2 A10.out).mono ?_); (case side1 => repeat (first | exact (Kd.C_below HR0.out HB.out) | (with_reducible refine Kd.C_alloc ?_ _) | (with_reducible refine Kd.C_drewN ?_ _) | (with_reducible refine Kd.C_drew ?_))); (case side2 => exact HC0.out); rintro e w14 ⟨rfl, hb⟩; have n0_ := Aside0.mk (below_step (by repeat (first | (with_reducible first | exact HB.out | apply below_alloc | apply pw_below_drewN | apply below_drew1) | exact HB.out)) hb); clear HB; have HB := n0_; clear n0_; (try clear hb); (try clear hb2); (try clear hk); (try clear hi)))
            go_meet
            case rel => exact ⟨_, (true), (by first | rfl | (simp; done) | (simp [*]; done)), H', ⟨by first | omega | exact Nat.le_refl _⟩, ⟨by repeat (first | (with_reducible first | exact HB.out | apply below_alloc | apply pw_below_drewN | apply below_drew1) | exact HB.out)⟩⟩
    case rest =>
      clear HC6
      try clear c1
      try clear p2
      try clear c5
      try clear c6
      try clear c8
      try clear c8b0
      try clear c8b1
      try clear c9
      try clear c9b0
      try clear c9b1
      try clear c11
      obtain ⟨kq, x36_5, rfl, HA, HJ5, HB⟩ := hcut
      cases kq with
      | zero => exact absurd HA.out (by simp [palinglaw20_LevelNone.j0])
      | succ kj5 =>
        have H := HA.out
        clear HA
        simp only [palinglaw20_LevelNone.j0] at H
        by_cases c15 : x36_5 = true
        · subst c15
          have H1 : (some true) = some r := by rw [if_pos rfl] at H; exact H
          clear H
          have H := H1
          clear H1
          obtain rfl := Option.some.inj H
          go_wp2
          go_ret
          exact ⟨by first | rfl | (simp [errW_none, errW_some] <;> rfl) | (simp [*, errW_none, errW_some] <;> rfl), by repeat (first | (with_reducible first | exact HB.out | apply below_alloc | apply pw_below_drewN | apply below_drew1) | exact HB.out)⟩
        · replace c15 := Bool.eq_false_iff.mpr c15
          subst c15
          have H1 : ((level_Secret.f kj5 l0 l1).bind fun t162 => (palinglaw20_LevelNone.l0 kj5 l0 l1 (Int.tmod (wrap64 (a2)) 30) (Int.tmod (wrap64 (Int.tdiv (wrap64 (a2)) 30)) 30) t162 false 0)) = some r := by rw [if_neg (show ¬ (false = true) by decide)] at H; exact H
          clear H
          have H := H1
          clear H1
          replace H := Option.bind_eq_some_iff.mp H
          obtain ⟨t162, A160, H⟩ := H
          replace H : (palinglaw20_LevelNone.l0 kj5 l0 l1 (Int.tmod (wrap64 (a2)) 30) (Int.tmod (wrap64 (Int.tdiv (wrap64 (a2)) 30)) 30) t162 false 0) = some r := H
          have A16 := Aside0.mk A160
          clear A160
          have H' := Aside0.mk H
          clear H
          go_wp2_with (first | ((with_reducible refine gate_callee (f := 13) rfl ?_); refine goesL_ (some 46) rfl rfl Try.func13 (by kernel_rfl) rfl #[.slice A0 l0.length c0, .slice A1 l1.length c1] rfl (by (try simp only [List.map_toArray, List.map_cons, List.map_nil]); first | done | rfl | (simp only [List.length_drop, List.length_take]; rfl)) ?_; (with_reducible refine (level_Secret.calls kj5 _ _ l0 _ _ l1 t162 _ ?side1 ?side2 ?side3 ?side4 A16.out).mono ?_); (case side1 => repeat (first | exact (Kd.C_below HR0.out HB.out) | (with_reducible refine Kd.C_alloc ?_ _) | (with_reducible refine Kd.C_drewN ?_ _) | (with_reducible refine Kd.C_drew ?_))); (case side2 => exact HC0.out); (case side3 => repeat (first | exact (Kd.C_below HR1.out HB.out) | (with_reducible refine Kd.C_alloc ?_ _) | (with_reducible refine Kd.C_drewN ?_ _) | (with_reducible refine Kd.C_drew ?_))); (case side4 => exact HC1.out); rintro e w17 ⟨v163, rfl, ho0, hb⟩; refine ⟨_, rfl, ?_⟩; have n0_ := Aside0.mk (Kd.R_lower ho0 (below_size (by repeat (first | (with_reducible first | exact HB.out | apply below_alloc | apply pw_below_drewN | apply below_drew1) | exact HB.out)))); have n1_ := Aside0.mk (below_step (by repeat (first | (with_reducible first | exact HB.out | apply below_alloc | apply pw_below_drewN | apply below_drew1) | exact HB.out)) hb); clear HB; have HO164 := n0_; have HB := n1_; clear n0_ n1_; (try clear hb); (try clear hb2); (try clear hk); (try clear hi); (try clear ho0)))
          go_loopg [11, 12] kj5 (fun kq v11 v12 w' => ∃ (x11_2 : Bool) (x12_2 : Int), v11 = .bool x11_2 ∧ v12 = .int .i64 x12_2 ∧ Aside0 (palinglaw20_LevelNone.l0 kq l0 l1 (Int.tmod (wrap64 (a2)) 30) (Int.tmod (wrap64 (Int.tdiv (wrap64 (a2)) 30)) 30) t162 x11_2 x12_2 = some r) ∧ Aside0 (kq ≤ kj5) ∧ Aside0 (Kd.R (Kd.int .i64) 3 w' w.heap.size (fun _ => True) v163 t162) ∧ Aside0 (Below w.heap.size w w'))
          case atStart => exact ⟨(false), (0), (by first | rfl | (simp; done) | (simp [*]; done)), (by first | rfl | (simp; done) | (simp [*]; done)), H', ⟨Nat.le_refl _⟩, ⟨by (with_reducible repeat (first | apply Kd.R_alloc | apply Kd.R_drewN | apply Kd.R_drew)); exact HO164.out⟩, ⟨by repeat (first | (with_reducible first | exact HB.out | apply below_alloc | apply pw_below_drewN | apply below_drew1) | exact HB.out)⟩⟩
          case round =>
            clear H'
            try clear c1
            try clear p2
            try clear c5
            try clear c6
            try clear p6
            try clear c8
            try clear c8b0
            try clear c8b1
            try clear c9
            try clear c9b0
            try clear c9b1
            try clear c11
            try clear c13
            try clear c15
            try clear p2
            obtain ⟨x11_2, x12_2, rfl, rfl, HA, HK2, HO_10, HB⟩ := hrel
            cases gk with
            | zero => exact absurd HA.out (by simp [palinglaw20_LevelNone.l0])
            | succ k2 =>
              have H := HA.out
              clear HA
              simp only [palinglaw20_LevelNone.l0] at H
              by_cases c18 : x12_2 < (l0.length : Int)
              · rw [if_pos c18] at H
                have c18b0 : decide (x12_2 < (l0.length : Int)) = true := decide_eq_true c18
                clear c18
                by_cases c19 : x11_2 = true
                · subst c19
                  have H1 : (palinglaw20_LevelNone.l0 k2 l0 l1 (Int.tmod (wrap64 (a2)) 30) (Int.tmod (wrap64 (Int.tdiv (wrap64 (a2)) 30)) 30) t162 true (wrap64 (x12_2 + 1))) = some r := by rw [if_pos rfl] at H; exact H
                  clear H
                  have H := H1
                  clear H1
                  have H' := Aside0.mk H
                  clear H
                  go_wp2
                  go_roundg k2
                  case measure => have := HJ5.out; have := HK2.out; omega
                  case rel => exact ⟨(true), (wrap64 (x12_2 + 1)), (by first | rfl | (simp; done) | (simp [*]; done)), (by first | rfl | (simp; done) | (simp [*]; done)), H', ⟨by have := HJ5.out; have := HK2.out; omega⟩, ⟨by (with_reducible repeat (first | apply Kd.R_alloc | apply Kd.R_drewN | apply Kd.R_drew)); exact HO_10.out⟩, ⟨by repeat (first | (with_reducible first | exact HB.out | apply below_alloc | apply pw_below_drewN | apply below_drew1) | exact HB.out)⟩⟩
                · replace c19 := Bool.eq_false_iff.mpr c19
                  subst c19
                  have H1 : (if 0 ≤ x12_2 then (palinglaw20_LevelNone.l0 k2 l0 l1 (Int.tmod (wrap64 (a2)) 30) (Int.tmod (wrap64 (Int.tdiv (wrap64 (a2)) 30)) 30) t162 (((rd_T36 l0 x12_2).f0) == 4) (wrap64 (x12_2 + 1))) else (none)) = some r := by rw [if_neg (show ¬ (false = true) by decide)] at H; exact H
                  clear H
                  have H := H1
                  clear H1
                  by_cases c20 : 0 ≤ x12_2
                  · rw [if_pos c20] at H
                    have c20b0 : decide (0 ≤ x12_2) = true := decide_eq_true c20
                    clear c20
                    have H' := Aside0.mk H
                    clear H
                    have p165 : 0 ≤ (x12_2 : Int) := of_decide_eq_true (by first | (with_reducible assumption) | assumption)
                    have q165 : x12_2 < (l0.length : Int) := of_decide_eq_true (by first | (with_reducible assumption) | assumption)
                    obtain ⟨ad165, e165, hx165_0, hx165_1, hx165_2, hx165_3, hx165_4, hx165_5, hx165_6⟩ := at_T36 HR0.out x12_2 p165 q165
                    cases e165
                    replace hx165_0 := (HB.out.cell (World.block_lt_of_cell? w _ hx165_0)).trans hx165_0
                    replace hx165_1 := (HB.out.cell (World.block_lt_of_cell? w _ hx165_1)).trans hx165_1
                    replace hx165_2 := (HB.out.cell (World.block_lt_of_cell? w _ hx165_2)).trans hx165_2
                    replace hx165_3 := (HB.out.cell (World.block_lt_of_cell? w _ hx165_3)).trans hx165_3
                    replace hx165_4 := (HB.out.cell (World.block_lt_of_cell? w _ hx165_4)).trans hx165_4
                    replace hx165_5 := (HB.out.cell (World.block_lt_of_cell? w _ hx165_5)).trans hx165_5
                    replace hx165_6 := (HB.out.cell (World.block_lt_of_cell? w _ hx165_6)).trans hx165_6
                    replace p165 := eq_true p165
                    replace q165 := eq_true q165
                    go_wp2
                    go_roundg k2
                    case measure => have := HJ5.out; have := HK2.out; omega
                    case rel => exact ⟨((((rd_T36 l0 x12_2).f0) == 4)), (wrap64 (x12_2 + 1)), (by first | rfl | (simp; done) | (simp [*]; done)), (by first | rfl | (simp; done) | (simp [*]; done)), H', ⟨by have := HJ5.out; have := HK2.out; omega⟩, ⟨by (with_reducible repeat (first | apply Kd.R_alloc | apply Kd.R_drewN | apply Kd.R_drew)); exact HO_10.out⟩, ⟨by repeat (first | (with_reducible first | exact HB.out | apply below_alloc | apply pw_below_drewN | apply below_drew1) | exact HB.out)⟩⟩
                  · rw [if_neg c20] at H
                    exact absurd H (by simp)
              · rw [if_neg c18] at H
                have c18b0 : decide (x12_2 < (l0.length : Int)) = false := decide_eq_false c18
                clear c18
                by_cases c21 : ([] : List (S36)).length + l0.length < 2513169434916
                · rw [if_pos c21] at H
                  have LMc21 := Aside0.mk c21
                  clear c21
                  obtain ⟨y166, hy166⟩ : ∃ y_ : List (S36), y_ = (([] : List (S36)) ++ l0) := ⟨_, rfl⟩
                  replace H : (if y166.length < 2513169434916 then ((level_Secret.f k2 (y166 ++ [(⟨1, 0, Int.tmod (Int.tmod (wrap64 (Int.tdiv (wrap64 (a2)) 30)) 30) 30, Int.tmod (Int.tmod (wrap64 (a2)) 30) 30, 0, 0, 0⟩ : S36)]) l1).bind fun t172 => ((palinglaw20_has.f k2 t162 (Int.tmod (wrap64 (a2)) 30)).bind fun t175 => (if t175 = true then ((palinglaw20_has.f k2 t172 (Int.tmod (wrap64 (Int.tdiv (wrap64 (a2)) 30)) 30)).bind fun t176 => (if t176 = true then ((palinglaw20_has.f k2 t162 (Int.tmod (wrap64 (a2)) 30)).bind fun t177 => (if t177 = true then (palinglaw20_LevelNone.j2 k2 t162 x11_2 t172 false) else ((palingref14_Ints.f k2 t162 t172).bind fun t178 => (palinglaw20_LevelNone.j2 k2 t162 x11_2 t172 (!t178))))) else (palinglaw20_LevelNone.j2 k2 t162 x11_2 t172 true))) else ((palinglaw20_has.f k2 t162 (Int.tmod (wrap64 (a2)) 30)).bind fun t179 => (if t179 = true then (palinglaw20_LevelNone.j2 k2 t162 x11_2 t172 false) else ((palingref14_Ints.f k2 t162 t172).bind fun t180 => (palinglaw20_LevelNone.j2 k2 t162 x11_2 t172 (!t180)))))))) else (none)) = some r := by first | (rw [hy166]; with_reducible exact H) | (have H2_ := (Option.bind_some _ _).symm.trans H; rw [hy166]; with_reducible exact H2_) | (have H2_ := (Option.bind_some _ _).symm.trans H; with_reducible exact H2_) | with_reducible exact H | (rw [hy166]; exact H) | exact H
                  have Ny166 := Aside0.mk hy166
                  clear hy166
                  by_cases c22 : y166.length < 2513169434916
                  · rw [if_pos c22] at H
                    have LMc22 := Aside0.mk c22
                    clear c22
                    obtain ⟨y169, hy169⟩ : ∃ y_ : List (S36), y_ = (y166 ++ [(⟨1, 0, Int.tmod (Int.tmod (wrap64 (Int.tdiv (wrap64 (a2)) 30)) 30) 30, Int.tmod (Int.tmod (wrap64 (a2)) 30) 30, 0, 0, 0⟩ : S36)]) := ⟨_, rfl⟩
                    replace H : ((level_Secret.f k2 y169 l1).bind fun t172 => ((palinglaw20_has.f k2 t162 (Int.tmod (wrap64 (a2)) 30)).bind fun t175 => (if t175 = true then ((palinglaw20_has.f k2 t172 (Int.tmod (wrap64 (Int.tdiv (wrap64 (a2)) 30)) 30)).bind fun t176 => (if t176 = true then ((palinglaw20_has.f k2 t162 (Int.tmod (wrap64 (a2)) 30)).bind fun t177 => (if t177 = true then (palinglaw20_LevelNone.j2 k2 t162 x11_2 t172 false) else ((palingref14_Ints.f k2 t162 t172).bind fun t178 => (palinglaw20_LevelNone.j2 k2 t162 x11_2 t172 (!t178))))) else (palinglaw20_LevelNone.j2 k2 t162 x11_2 t172 true))) else ((palinglaw20_has.f k2 t162 (Int.tmod (wrap64 (a2)) 30)).bind fun t179 => (if t179 = true then (palinglaw20_LevelNone.j2 k2 t162 x11_2 t172 false) else ((palingref14_Ints.f k2 t162 t172).bind fun t180 => (palinglaw20_LevelNone.j2 k2 t162 x11_2 t172 (!t180)))))))) = some r := by first | (rw [hy169]; with_reducible exact H) | (have H2_ := (Option.bind_some _ _).symm.trans H; rw [hy169]; with_reducible exact H2_) | (have H2_ := (Option.bind_some _ _).symm.trans H; with_reducible exact H2_) | with_reducible exact H | (rw [hy169]; exact H) | exact H
                    have Ny169 := Aside0.mk hy169
                    clear hy169
                    replace H := Option.bind_eq_some_iff.mp H
                    obtain ⟨t172, A230, H⟩ := H
                    replace H : ((palinglaw20_has.f k2 t162 (Int.tmod (wrap64 (a2)) 30)).bind fun t175 => (if t175 = true then ((palinglaw20_has.f k2 t172 (Int.tmod (wrap64 (Int.tdiv (wrap64 (a2)) 30)) 30)).bind fun t176 => (if t176 = true then ((palinglaw20_has.f k2 t162 (Int.tmod (wrap64 (a2)) 30)).bind fun t177 => (if t177 = true then (palinglaw20_LevelNone.j2 k2 t162 x11_2 t172 false) else ((palingref14_Ints.f k2 t162 t172).bind fun t178 => (palinglaw20_LevelNone.j2 k2 t162 x11_2 t172 (!t178))))) else (palinglaw20_LevelNone.j2 k2 t162 x11_2 t172 true))) else ((palinglaw20_has.f k2 t162 (Int.tmod (wrap64 (a2)) 30)).bind fun t179 => (if t179 = true then (palinglaw20_LevelNone.j2 k2 t162 x11_2 t172 false) else ((palingref14_Ints.f k2 t162 t172).bind fun t180 => (palinglaw20_LevelNone.j2 k2 t162 x11_2 t172 (!t180))))))) = some r := H
                    have A23 := Aside0.mk A230
                    clear A230
                    have HC24 := Aside0.mk H
                    clear H
                    replace Ny169 := Aside0.mk (by have h_ := Ny169.out; simp only [Int.tmod_tmod] at h_; exact h_)
                    go_upto_region 18 with (first | ((with_reducible refine gate_builtin (b := .append) (xs := #[.tmp 62, .tmp 63]) rfl ?_); (try (refine gate_guard (by rfl) ?_; dsimp only)); at_builtin; refine R_append_rows2 k36 Try.underlying22 (w0 := w) w.heap.size rfl (.tmp 62) (.tmp 63) 39 36 (.agg #[(.int .i64 0), (.int .i64 0), (.int .i64 0), (.int .i64 0), (.int .i64 0), (.int .i64 0), (.int .i64 0)]) 56 rfl Try.underlying39 info36 rfl (by decide) (by omega) (.slice none 0 0) ([] : List (S36)) l0 _ _ _ (fun _ => True) (fun _ => False) rfl rfl ?aO ?aR (fun _ _ h => h) (fun _ h => h.elim) ?aF ?aB ?aS ?aL ?_; (case aR => repeat (first | exact (Kd.C_below HR0.out HB.out) | (with_reducible refine Kd.C_alloc ?_ _) | (with_reducible refine Kd.C_drewN ?_ _) | (with_reducible refine Kd.C_drew ?_))); (case aB => exact (by repeat (first | (with_reducible first | exact HB.out | apply below_alloc | apply pw_below_drewN | apply below_drew1) | exact HB.out))); (case aF => exact (fun _ _ => trivial)); (case aO => exact ((Kd.R_nil _ _ _ _ (fun _ => True)))); (case aS => exact (below_size (by repeat (first | (with_reducible first | exact HB.out | apply below_alloc | apply pw_below_drewN | apply below_drew1) | exact HB.out)))); (case aL => have := LMc21.out; omega); intro v167 w25 ho hb hg hat; rw [← Ny166.out] at ho; have n0_ := Aside0.mk (Kd.R_grown (by (with_reducible repeat (first | apply Kd.R_alloc | apply Kd.R_drewN | apply Kd.R_drew)); exact HO_10.out) hg (fun _ _ => by simp [Value.ownBlock])); have n1_ := Aside0.mk (hb); have n2_ := Aside0.mk (ho); clear HO_10; clear HB; have HO_10 := n0_; have HB := n1_; have HO168 := n2_; clear n0_ n1_ n2_; clear ho hb hg hat) | ((with_reducible refine gate_builtin (b := .append) (xs := #[.tmp 65, .tmp 71]) rfl ?_); (try (refine gate_guard (by rfl) ?_; dsimp only)); at_builtin; refine Kd.R_append k36 (w0 := w) w.heap.size rfl (.tmp 65) (.tmp 71) 39 36 (.agg #[(.int .i64 0), (.int .i64 0), (.int .i64 0), (.int .i64 0), (.int .i64 0), (.int .i64 0), (.int .i64 0)]) 56 rfl Try.underlying39 info36 rfl (by decide) (by omega) v167 y166 (⟨1, 0, Int.tmod (wrap64 (Int.tdiv (wrap64 (a2)) 30)) 30, Int.tmod (wrap64 (a2)) 30, 0, 0, 0⟩ : S36) [.int .i64 1, .int .i64 0, .int .i64 (Int.tmod (wrap64 (Int.tdiv (wrap64 (a2)) 30)) 30), .int .i64 (Int.tmod (wrap64 (a2)) 30), .int .i64 0, .int .i64 0, .int .i64 0] (fun _ => True) (fun _ => False) rfl rfl ?aP (fun _ hk => hk.elim) ?aF ?aO ?aB ?aS ?aL ?_; (case aP => exact k36_mkM _ _ _ (⟨1, 0, Int.tmod (wrap64 (Int.tdiv (wrap64 (a2)) 30)) 30, Int.tmod (wrap64 (a2)) 30, 0, 0, 0⟩ : S36)); (case aB => exact (by repeat (first | (with_reducible first | exact HB.out | apply below_alloc | apply pw_below_drewN | apply below_drew1) | exact HB.out))); (case aF => exact (fun _ _ => trivial)); (case aO => exact (by (with_reducible repeat (first | apply Kd.R_alloc | apply Kd.R_drewN | apply Kd.R_drew)); exact HO168.out)); (case aS => exact (below_size (by repeat (first | (with_reducible first | exact HB.out | apply below_alloc | apply pw_below_drewN | apply below_drew1) | exact HB.out)))); (case aL => have := LMc22.out; omega); intro v170 w26 ho hb hg hat; rw [← Ny169.out] at ho; have n0_ := Aside0.mk (Kd.R_over' (by (with_reducible repeat (first | apply Kd.R_alloc | apply Kd.R_drewN | apply Kd.R_drew)); exact HO_10.out) (Kd.R_typed (by (with_reducible repeat (first | apply Kd.R_alloc | apply Kd.R_drewN | apply Kd.R_drew)); exact HO168.out)) (by decide) hg); have n1_ := Aside0.mk (hb); have n2_ := Aside0.mk (ho); clear HO_10; clear HB; clear HO168; have HO_10 := n0_; have HB := n1_; have HO171 := n2_; clear n0_ n1_ n2_; clear ho hb hg hat; obtain ⟨Ao27, co27, eo27⟩ := Kd.R_slice HO171.out; subst eo27) | ((with_reducible refine gate_callee (f := 13) rfl ?_); refine goesL_ (some 75) rfl rfl Try.func13 (by kernel_rfl) rfl #[.slice Ao27 y169.length co27, .slice A1 l1.length c1] rfl (by (try simp only [List.map_toArray, List.map_cons, List.map_nil]); first | done | rfl | (simp only [List.length_drop, List.length_take]; rfl)) ?_; (with_reducible refine (level_Secret.calls k2 _ _ y169 _ _ l1 t172 _ ?side1 ?side2 ?side3 ?side4 A23.out).mono ?_); (case side1 => repeat (first | exact (Kd.R_reads' HO171.out).2.2 | (with_reducible refine Kd.C_alloc ?_ _) | (with_reducible refine Kd.C_drewN ?_ _) | (with_reducible refine Kd.C_drew ?_))); (case side2 => exact (Kd.R_reads' HO171.out).2.1); (case side3 => repeat (first | exact (Kd.C_below HR1.out HB.out) | (with_reducible refine Kd.C_alloc ?_ _) | (with_reducible refine Kd.C_drewN ?_ _) | (with_reducible refine Kd.C_drew ?_))); (case side4 => exact HC1.out); rintro e w28 ⟨v173, rfl, ho0, hb⟩; refine ⟨_, rfl, ?_⟩; have n0_ := Aside0.mk (Kd.R_elder' (by (with_reducible repeat (first | apply Kd.R_alloc | apply Kd.R_drewN | apply Kd.R_drew)); exact HO_10.out) (Kd.R_base ho0) hb); have n1_ := Aside0.mk (Kd.R_below (by (with_reducible repeat (first | apply Kd.R_alloc | apply Kd.R_drewN | apply Kd.R_drew)); exact HO171.out) hb); have n2_ := Aside0.mk (Kd.R_lower (Kd.R_new' ho0 (Kd.R_lt (by (with_reducible repeat (first | apply Kd.R_alloc | apply Kd.R_drewN | apply Kd.R_drew)); exact HO_10.out))) (below_size (by repeat (first | (with_reducible first | exact HB.out | apply below_alloc | apply pw_below_drewN | apply below_drew1) | exact HB.out)))); have n3_ := Aside0.mk (below_step (by repeat (first | (with_reducible first | exact HB.out | apply below_alloc | apply pw_below_drewN | apply below_drew1) | exact HB.out)) hb); clear HO_10; clear HO171; clear HB; have HO_10 := n0_; have HO171 := n1_; have HO174 := n2_; have HB := n3_; clear n0_ n1_ n2_ n3_; (try clear hb); (try clear hb2); (try clear hk); (try clear hi); (try clear ho0)))
                    (try simp only [Act.put, List.setIfInBounds_toArray, List.set_cons_zero, List.set_cons_succ])
                    go_cut [96] (fun v96 wc => ∃ (kq : Nat) (x96_23 : Bool), v96 = .bool x96_23 ∧ Aside0 (palinglaw20_LevelNone.j2 kq t162 x11_2 t172 x96_23 = some r) ∧ Aside0 (kq ≤ k2) ∧ Aside0 (Kd.R (Kd.int .i64) 3 wc w.heap.size (fun k_ => some k_ ≠ (v173 : Value).ownBlock) v163 t162) ∧ Aside0 (Kd.R (Kd.int .i64) 3 wc w.heap.size (fun k_ => some k_ ≠ (v163 : Value).ownBlock) v173 t172) ∧ Aside0 (Below w.heap.size w wc))
                    case first =>
                      have H := HC24.out
                      clear HC24
                      replace H := Option.bind_eq_some_iff.mp H
                      obtain ⟨t175, A290, H⟩ := H
                      replace H : (if t175 = true then ((palinglaw20_has.f k2 t172 (Int.tmod (wrap64 (Int.tdiv (wrap64 (a2)) 30)) 30)).bind fun t176 => (if t176 = true then ((palinglaw20_has.f k2 t162 (Int.tmod (wrap64 (a2)) 30)).bind fun t177 => (if t177 = true then (palinglaw20_LevelNone.j2 k2 t162 x11_2 t172 false) else ((palingref14_Ints.f k2 t162 t172).bind fun t178 => (palinglaw20_LevelNone.j2 k2 t162 x11_2 t172 (!t178))))) else (palinglaw20_LevelNone.j2 k2 t162 x11_2 t172 true))) else ((palinglaw20_has.f k2 t162 (Int.tmod (wrap64 (a2)) 30)).bind fun t179 => (if t179 = true then (palinglaw20_LevelNone.j2 k2 t162 x11_2 t172 false) else ((palingref14_Ints.f k2 t162 t172).bind fun t180 => (palinglaw20_LevelNone.j2 k2 t162 x11_2 t172 (!t180)))))) = some r := H
                      have A29 := Aside0.mk A290
                      clear A290
                      by_cases c30 : t175 = true
                      · subst c30
                        have H1 : ((palinglaw20_has.f k2 t172 (Int.tmod (wrap64 (Int.tdiv (wrap64 (a2)) 30)) 30)).bind fun t176 => (if t176 = true then ((palinglaw20_has.f k2 t162 (Int.tmod (wrap64 (a2)) 30)).bind fun t177 => (if t177 = true then (palinglaw20_LevelNone.j2 k2 t162 x11_2 t172 false) else ((palingref14_Ints.f k2 t162 t172).bind fun t178 => (palinglaw20_LevelNone.j2 k2 t162 x11_2 t172 (!t178))))) else (palinglaw20_LevelNone.j2 k2 t162 x11_2 t172 true))) = some r := by rw [if_pos rfl] at H; exact H
                        clear H
                        have H := H1
                        clear H1
                        replace H := Option.bind_eq_some_iff.mp H
                        obtain ⟨t176, A310, H⟩ := H
                        replace H : (if t176 = true then ((palinglaw20_has.f k2 t162 (Int.tmod (wrap64 (a2)) 30)).bind fun t177 => (if t177 = true then (palinglaw20_LevelNone.j2 k2 t162 x11_2 t172 false) else ((palingref14_Ints.f k2 t162 t172).bind fun t178 => (palinglaw20_LevelNone.j2 k2 t162 x11_2 t172 (!t178))))) else (palinglaw20_LevelNone.j2 k2 t162 x11_2 t172 true)) = some r := H
                        have A31 := Aside0.mk A310
                        clear A310
                        by_cases c32 : t176 = true
                        · subst c32
                          have H1 : ((palinglaw20_has.f k2 t162 (Int.tmod (wrap64 (a2)) 30)).bind fun t177 => (if t177 = true then (palinglaw20_LevelNone.j2 k2 t162 x11_2 t172 false) else ((palingref14_Ints.f k2 t162 t172).bind fun t178 => (palinglaw20_LevelNone.j2 k2 t162 x11_2 t172 (!t178))))) = some r := by rw [if_pos rfl] at H; exact H
                          clear H
                          have H := H1
                          clear H1
                          replace H := Option.bind_eq_some_iff.mp H
                          obtain ⟨t177, A330, H⟩ := H
                          replace H : (if t177 = true then (palinglaw20_LevelNone.j2 k2 t162 x11_2 t172 false) else ((palingref14_Ints.f k2 t162 t172).bind fun t178 => (palinglaw20_LevelNone.j2 k2 t162 x11_2 t172 (!t178)))) = some r := H
                          have A33 := Aside0.mk A330
                          clear A330
                          by_cases c34 : t177 = true
                          · subst c34
                            have H1 : (palinglaw20_LevelNone.j2 k2 t162 x11_2 t172 false) = some r := by rw [if_pos rfl] at H; exact H
                            clear H
                            have H := H1
                            clear H1
                            have H' := Aside0.mk H
                            clear H
                            obtain ⟨Ao35, co35, eo35⟩ := Kd.R_slice HO_10.out
                            subst eo35
                            go_wp2_with (first | ((with_reducible refine gate_callee (f := 15) rfl ?_); refine goesL_ (some 78) rfl rfl Try.func15 (by kernel_rfl) rfl #[.slice Ao35 t162.length co35, .int .i64 (Int.tmod (wrap64 (a2)) 30)] rfl (by (try simp only [List.map_toArray, List.map_cons, List.map_nil]); first | done | rfl | (simp only [List.length_drop, List.length_take]; rfl)) ?_; (with_reducible refine (palinglaw20_has.calls k2 _ _ t162 (Int.tmod (wrap64 (a2)) 30) true _ ?side1 ?side2 A29.out).mono ?_); (case side1 => repeat (first | exact (Kd.R_reads' HO_10.out).2.2 | (with_reducible refine Kd.C_alloc ?_ _) | (with_reducible refine Kd.C_drewN ?_ _) | (with_reducible refine Kd.C_drew ?_))); (case side2 => exact (Kd.R_reads' HO_10.out).2.1); rintro e w' ⟨rfl, ⟨nd, rfl⟩⟩; refine ⟨_, rfl, ?_⟩; obtain ⟨Ao36, co36, eo36⟩ := Kd.R_slice HO174.out; subst eo36) | (go_at_call 15; (with_reducible refine (palinglaw20_has.calls k2 _ _ t172 (Int.tmod (wrap64 (Int.tdiv (wrap64 (a2)) 30)) 30) true _ ?side1 ?side2 A31.out).mono ?_); (case side1 => repeat (first | exact (Kd.R_reads' HO174.out).2.2 | (with_reducible refine Kd.C_alloc ?_ _) | (with_reducible refine Kd.C_drewN ?_ _) | (with_reducible refine Kd.C_drew ?_))); (case side2 => exact (Kd.R_reads' HO174.out).2.1); rintro e w' ⟨rfl, ⟨nd, rfl⟩⟩) | (go_at_call 15; (with_reducible refine (palinglaw20_has.calls k2 _ _ t162 (Int.tmod (wrap64 (a2)) 30) true _ ?side1 ?side2 A33.out).mono ?_); (case side1 => repeat (first | exact (Kd.R_reads' HO_10.out).2.2 | (with_reducible refine Kd.C_alloc ?_ _) | (with_reducible refine Kd.C_drewN ?_ _) | (with_reducible refine Kd.C_drew ?_))); (case side2 => exact (Kd.R_reads' HO_10.out).2.1); rintro e w' ⟨rfl, ⟨nd, rfl⟩⟩))
                            go_meet
                            case rel => exact ⟨_, (false), (by first | rfl | (simp; done) | (simp [*]; done)), H', ⟨by have := HJ5.out; have := HK2.out; first | omega | exact Nat.le_refl _⟩, ⟨by (with_reducible repeat (first | apply Kd.R_alloc | apply Kd.R_drewN | apply Kd.R_drew)); exact Kd.R_mono HO_10.out (fun _ hk => hk.2)⟩, ⟨by (with_reducible repeat (first | apply Kd.R_alloc | apply Kd.R_drewN | apply Kd.R_drew)); exact Kd.R_mono HO174.out (fun _ hk => hk.2)⟩, ⟨by repeat (first | (with_reducible first | exact HB.out | apply below_alloc | apply pw_below_drewN | apply below_drew1) | exact HB.out)⟩⟩
                          · replace c34 := Bool.eq_false_iff.mpr c34
                            subst c34
                            have H1 : ((palingref14_Ints.f k2 t162 t172).bind fun t178 => (palinglaw20_LevelNone.j2 k2 t162 x11_2 t172 (!t178))) = some r := by rw [if_neg (show ¬ (false = true) by decide)] at H; exact H
                            clear H
                            have H := H1
                            clear H1
                            replace H := Option.bind_eq_some_iff.mp H
                            obtain ⟨t178, A370, H⟩ := H
                            replace H : (palinglaw20_LevelNone.j2 k2 t162 x11_2 t172 (!t178)) = some r := H
                            have A37 := Aside0.mk A370
                            clear A370
                            have H' := Aside0.mk H
                            clear H
                            obtain ⟨Ao38, co38, eo38⟩ := Kd.R_slice HO_10.out
                            subst eo38
                            go_wp2_with (first | ((with_reducible refine gate_callee (f := 15) rfl ?_); refine goesL_ (some 78) rfl rfl Try.func15 (by kernel_rfl) rfl #[.slice Ao38 t162.length co38, .int .i64 (Int.tmod (wrap64 (a2)) 30)] rfl (by (try simp only [List.map_toArray, List.map_cons, List.map_nil]); first | done | rfl | (simp only [List.length_drop, List.length_take]; rfl)) ?_; (with_reducible refine (palinglaw20_has.calls k2 _ _ t162 (Int.tmod (wrap64 (a2)) 30) true _ ?side1 ?side2 A29.out).mono ?_); (case side1 => repeat (first | exact (Kd.R_reads' HO_10.out).2.2 | (with_reducible refine Kd.C_alloc ?_ _) | (with_reducible refine Kd.C_drewN ?_ _) | (with_reducible refine Kd.C_drew ?_))); (case side2 => exact (Kd.R_reads' HO_10.out).2.1); rintro e w' ⟨rfl, ⟨nd, rfl⟩⟩; refine ⟨_, rfl, ?_⟩; obtain ⟨Ao39, co39, eo39⟩ := Kd.R_slice HO174.out; subst eo39) | (go_at_call 15; (with_reducible refine (palinglaw20_has.calls k2 _ _ t172 (Int.tmod (wrap64 (Int.tdiv (wrap64 (a2)) 30)) 30) true _ ?side1 ?side2 A31.out).mono ?_); (case side1 => repeat (first | exact (Kd.R_reads' HO174.out).2.2 | (with_reducible refine Kd.C_alloc ?_ _) | (with_reducible refine Kd.C_drewN ?_ _) | (with_reducible refine Kd.C_drew ?_))); (case side2 => exact (Kd.R_reads' HO174.out).2.1); rintro e w' ⟨rfl, ⟨nd, rfl⟩⟩) | (go_at_call 15; (with_reducible refine (palinglaw20_has.calls k2 _ _ t162 (Int.tmod (wrap64 (a2)) 30) false _ ?side1 ?side2 A33.out).mono ?_); (case side1 => repeat (first | exact (Kd.R_reads' HO_10.out).2.2 | (with_reducible refine Kd.C_alloc ?_ _) | (with_reducible refine Kd.C_drewN ?_ _) | (with_reducible refine Kd.C_drew ?_))); (case side2 => exact (Kd.R_reads' HO_10.out).2.1); rintro e w' ⟨rfl, ⟨nd, rfl⟩⟩) | (go_at_call 12; (with_reducible refine (palingref14_Ints.calls k2 _ _ t162 _ _ t172 t178 _ ?side1 ?side2 ?side3 ?side4 A37.out).mono ?_); (case side1 => repeat (first | exact (Kd.R_reads' HO_10.out).2.2 | (with_reducible refine Kd.C_alloc ?_ _) | (with_reducible refine Kd.C_drewN ?_ _) | (with_reducible refine Kd.C_drew ?_))); (case side2 => exact (Kd.R_reads' HO_10.out).2.1); (case side3 => repeat (first | exact (Kd.R_reads' HO174.out).2.2 | (with_reducible refine Kd.C_alloc ?_ _) | (with_reducible refine Kd.C_drewN ?_ _) | (with_reducible refine Kd.C_drew ?_))); (case side4 => exact (Kd.R_reads' HO174.out).2.1); rintro e w' ⟨rfl, ⟨nd, rfl⟩⟩))
                            go_meet
                            case rel => exact ⟨_, (!t178), (by first | rfl | (simp; done) | (simp [*]; done)), H', ⟨by have := HJ5.out; have := HK2.out; first | omega | exact Nat.le_refl _⟩, ⟨by (with_reducible repeat (first | apply Kd.R_alloc | apply Kd.R_drewN | apply Kd.R_drew)); exact Kd.R_mono HO_10.out (fun _ hk => hk.2)⟩, ⟨by (with_reducible repeat (first | apply Kd.R_alloc | apply Kd.R_drewN | apply Kd.R_drew)); exact Kd.R_mono HO174.out (fun _ hk => hk.2)⟩, ⟨by repeat (first | (with_reducible first | exact HB.out | apply below_alloc | apply pw_below_drewN | apply below_drew1) | exact HB.out)⟩⟩
                        · replace c32 := Bool.eq_false_iff.mpr c32
                          subst c32
                          have H1 : (palinglaw20_LevelNone.j2 k2 t162 x11_2 t172 true) = some r := by rw [if_neg (show ¬ (false = true) by decide)] at H; exact H
                          clear H
                          have H := H1
                          clear H1
                          have H' := Aside0.mk H
                          clear H
                          obtain ⟨Ao40, co40, eo40⟩ := Kd.R_slice HO_10.out
                          subst eo40
                          go_wp2_with (first | ((with_reducible refine gate_callee (f := 15) rfl ?_); refine goesL_ (some 78) rfl rfl Try.func15 (by kernel_rfl) rfl #[.slice Ao40 t162.length co40, .int .i64 (Int.tmod (wrap64 (a2)) 30)] rfl (by (try simp only [List.map_toArray, List.map_cons, List.map_nil]); first | done | rfl | (simp only [List.length_drop, List.length_take]; rfl)) ?_; (with_reducible refine (palinglaw20_has.calls k2 _ _ t162 (Int.tmod (wrap64 (a2)) 30) true _ ?side1 ?side2 A29.out).mono ?_); (case side1 => repeat (first | exact (Kd.R_reads' HO_10.out).2.2 | (with_reducible refine Kd.C_alloc ?_ _) | (with_reducible refine Kd.C_drewN ?_ _) | (with_reducible refine Kd.C_drew ?_))); (case side2 => exact (Kd.R_reads' HO_10.out).2.1); rintro e w' ⟨rfl, ⟨nd, rfl⟩⟩; refine ⟨_, rfl, ?_⟩; obtain ⟨Ao41, co41, eo41⟩ := Kd.R_slice HO174.out; subst eo41) | (go_at_call 15; (with_reducible refine (palinglaw20_has.calls k2 _ _ t172 (Int.tmod (wrap64 (Int.tdiv (wrap64 (a2)) 30)) 30) false _ ?side1 ?side2 A31.out).mono ?_); (case side1 => repeat (first | exact (Kd.R_reads' HO174.out).2.2 | (with_reducible refine Kd.C_alloc ?_ _) | (with_reducible refine Kd.C_drewN ?_ _) | (with_reducible refine Kd.C_drew ?_))); (case side2 => exact (Kd.R_reads' HO174.out).2.1); rintro e w' ⟨rfl, ⟨nd, rfl⟩⟩))
                          go_meet
                          case rel => exact ⟨_, (true), (by first | rfl | (simp; done) | (simp [*]; done)), H', ⟨by have := HJ5.out; have := HK2.out; first | omega | exact Nat.le_refl _⟩, ⟨by (with_reducible repeat (first | apply Kd.R_alloc | apply Kd.R_drewN | apply Kd.R_drew)); exact Kd.R_mono HO_10.out (fun _ hk => hk.2)⟩, ⟨by (with_reducible repeat (first | apply Kd.R_alloc | apply Kd.R_drewN | apply Kd.R_drew)); exact Kd.R_mono HO174.out (fun _ hk => hk.2)⟩, ⟨by repeat (first | (with_reducible first | exact HB.out | apply below_alloc | apply pw_below_drewN | apply below_drew1) | exact HB.out)⟩⟩
                      · replace c30 := Bool.eq_false_iff.mpr c30
                        subst c30
                        have H1 : ((palinglaw20_has.f k2 t162 (Int.tmod (wrap64 (a2)) 30)).bind fun t179 => (if t179 = true then (palinglaw20_LevelNone.j2 k2 t162 x11_2 t172 false) else ((palingref14_Ints.f k2 t162 t172).bind fun t180 => (palinglaw20_LevelNone.j2 k2 t162 x11_2 t172 (!t180))))) = some r := by rw [if_neg (show ¬ (false = true) by decide)] at H; exact H
                        clear H
                        have H := H1
                        clear H1
                        replace H := Option.bind_eq_some_iff.mp H
                        obtain ⟨t179, A420, H⟩ := H
                        replace H : (if t179 = true then (palinglaw20_LevelNone.j2 k2 t162 x11_2 t172 false) else ((palingref14_Ints.f k2 t162 t172).bind fun t180 => (palinglaw20_LevelNone.j2 k2 t162 x11_2 t172 (!t180)))) = some r := H
                        have A42 := Aside0.mk A420
                        clear A420
                        by_cases c43 : t179 = true
                        · subst c43
                          have H1 : (palinglaw20_LevelNone.j2 k2 t162 x11_2 t172 false) = some r := by rw [if_pos rfl] at H; exact H
                          clear H
                          have H := H1
                          clear H1
                          have H' := Aside0.mk H
                          clear H
                          obtain ⟨Ao44, co44, eo44⟩ := Kd.R_slice HO_10.out
                          subst eo44
                          go_wp2_with (first | ((with_reducible refine gate_callee (f := 15) rfl ?_); refine goesL_ (some 78) rfl rfl Try.func15 (by kernel_rfl) rfl #[.slice Ao44 t162.length co44, .int .i64 (Int.tmod (wrap64 (a2)) 30)] rfl (by (try simp only [List.map_toArray, List.map_cons, List.map_nil]); first | done | rfl | (simp only [List.length_drop, List.length_take]; rfl)) ?_; (with_reducible refine (palinglaw20_has.calls k2 _ _ t162 (Int.tmod (wrap64 (a2)) 30) false _ ?side1 ?side2 A29.out).mono ?_); (case side1 => repeat (first | exact (Kd.R_reads' HO_10.out).2.2 | (with_reducible refine Kd.C_alloc ?_ _) | (with_reducible refine Kd.C_drewN ?_ _) | (with_reducible refine Kd.C_drew ?_))); (case side2 => exact (Kd.R_reads' HO_10.out).2.1); rintro e w' ⟨rfl, ⟨nd, rfl⟩⟩; refine ⟨_, rfl, ?_⟩) | (go_at_call 15; (with_reducible refine (palinglaw20_has.calls k2 _ _ t162 (Int.tmod (wrap64 (a2)) 30) true _ ?side1 ?side2 A42.out).mono ?_); (case side1 => repeat (first | exact (Kd.R_reads' HO_10.out).2.2 | (with_reducible refine Kd.C_alloc ?_ _) | (with_reducible refine Kd.C_drewN ?_ _) | (with_reducible refine Kd.C_drew ?_))); (case side2 => exact (Kd.R_reads' HO_10.out).2.1); rintro e w' ⟨rfl, ⟨nd, rfl⟩⟩))
                          go_meet
                          case rel => exact ⟨_, (false), (by first | rfl | (simp; done) | (simp [*]; done)), H', ⟨by have := HJ5.out; have := HK2.out; first | omega | exact Nat.le_refl _⟩, ⟨by (with_reducible repeat (first | apply Kd.R_alloc | apply Kd.R_drewN | apply Kd.R_drew)); exact Kd.R_mono HO_10.out (fun _ hk => hk.2)⟩, ⟨by (with_reducible repeat (first | apply Kd.R_alloc | apply Kd.R_drewN | apply Kd.R_drew)); exact Kd.R_mono HO174.out (fun _ hk => hk.2)⟩, ⟨by repeat (first | (with_reducible first | exact HB.out | apply below_alloc | apply pw_below_drewN | apply below_drew1) | exact HB.out)⟩⟩
                        · replace c43 := Bool.eq_false_iff.mpr c43
                          subst c43
                          have H1 : ((palingref14_Ints.f k2 t162 t172).bind fun t180 => (palinglaw20_LevelNone.j2 k2 t162 x11_2 t172 (!t180))) = some r := by rw [if_neg (show ¬ (false = true) by decide)] at H; exact H
                          clear H
                          have H := H1
                          clear H1
                          replace H := Option.bind_eq_some_iff.mp H
                          obtain ⟨t180, A450, H⟩ := H
                          replace H : (palinglaw20_LevelNone.j2 k2 t162 x11_2 t172 (!t180)) = some r := H
                          have A45 := Aside0.mk A450
                          clear A450
                          have H' := Aside0.mk H
                          clear H
                          obtain ⟨Ao46, co46, eo46⟩ := Kd.R_slice HO_10.out
                          subst eo46
                          go_wp2_with (first | ((with_reducible refine gate_callee (f := 15) rfl ?_); refine goesL_ (some 78) rfl rfl Try.func15 (by kernel_rfl) rfl #[.slice Ao46 t162.length co46, .int .i64 (Int.tmod (wrap64 (a2)) 30)] rfl (by (try simp only [List.map_toArray, List.map_cons, List.map_nil]); first | done | rfl | (simp only [List.length_drop, List.length_take]; rfl)) ?_; (with_reducible refine (palinglaw20_has.calls k2 _ _ t162 (Int.tmod (wrap64 (a2)) 30) false _ ?side1 ?side2 A29.out).mono ?_); (case side1 => repeat (first | exact (Kd.R_reads' HO_10.out).2.2 | (with_reducible refine Kd.C_alloc ?_ _) | (with_reducible refine Kd.C_drewN ?_ _) | (with_reducible refine Kd.C_drew ?_))); (case side2 => exact (Kd.R_reads' HO_10.out).2.1); rintro e w' ⟨rfl, ⟨nd, rfl⟩⟩; refine ⟨_, rfl, ?_⟩) | (go_at_call 15; (with_reducible refine (palinglaw20_has.calls k2 _ _ t162 (Int.tmod (wrap64 (a2)) 30) false _ ?side1 ?side2 A42.out).mono ?_); (case side1 => repeat (first | exact (Kd.R_reads' HO_10.out).2.2 | (with_reducible refine Kd.C_alloc ?_ _) | (with_reducible refine Kd.C_drewN ?_ _) | (with_reducible refine Kd.C_drew ?_))); (case side2 => exact (Kd.R_reads' HO_10.out).2.1); rintro e w' ⟨rfl, ⟨nd, rfl⟩⟩; obtain ⟨Ao47, co47, eo47⟩ := Kd.R_slice HO174.out; subst eo47) | (go_at_call 12; (with_reducible refine (palingref14_Ints.calls k2 _ _ t162 _ _ t172 t180 _ ?side1 ?side2 ?side3 ?side4 A45.out).mono ?_); (case side1 => repeat (first | exact (Kd.R_reads' HO_10.out).2.2 | (with_reducible refine Kd.C_alloc ?_ _) | (with_reducible refine Kd.C_drewN ?_ _) | (with_reducible refine Kd.C_drew ?_))); (case side2 => exact (Kd.R_reads' HO_10.out).2.1); (case side3 => repeat (first | exact (Kd.R_reads' HO174.out).2.2 | (with_reducible refine Kd.C_alloc ?_ _) | (with_reducible refine Kd.C_drewN ?_ _) | (with_reducible refine Kd.C_drew ?_))); (case side4 => exact (Kd.R_reads' HO174.out).2.1); rintro e w' ⟨rfl, ⟨nd, rfl⟩⟩))
                          go_meet
                          case rel => exact ⟨_, (!t180), (by first | rfl | (simp; done) | (simp [*]; done)), H', ⟨by have := HJ5.out; have := HK2.out; first | omega | exact Nat.le_refl _⟩, ⟨by (with_reducible repeat (first | apply Kd.R_alloc | apply Kd.R_drewN | apply Kd.R_drew)); exact Kd.R_mono HO_10.out (fun _ hk => hk.2)⟩, ⟨by (with_reducible repeat (first | apply Kd.R_alloc | apply Kd.R_drewN | apply Kd.R_drew)); exact Kd.R_mono HO174.out (fun _ hk => hk.2)⟩, ⟨by repeat (first | (with_reducible first | exact HB.out | apply below_alloc | apply pw_below_drewN | apply below_drew1) | exact HB.out)⟩⟩
                    case rest =>
                      clear HC24
                      try clear c1
                      try clear p1
                      try clear q1
                      try clear hx1
                      try clear c2
                      try clear p2
                      try clear c3
                      try clear c4
                      try clear c5
                      try clear c6
                      try clear p6
                      try clear c8
                      try clear c8b0
                      try clear c8b1
                      try clear c9
                      try clear c9b0
                      try clear c9b1
                      try clear c11
                      try clear c13
                      try clear c15
                      try clear p16
                      try clear q16
                      try clear hx16
                      try clear c18
                      try clear c18b0
                      try clear c19
                      try clear c20
                      try clear c20b0
                      try clear c21
                      try clear c22
                      try clear c30
                      try clear c32
                      try clear c34
                      try clear c43
                      try clear hx165_0
                      try clear hx165_1
                      try clear hx165_2
                      try clear hx165_3
                      try clear hx165_4
                      try clear hx165_5
                      try clear hx165_6
                      try clear p165
                      try clear p2
                      try clear p6
                      try clear q165
                      obtain ⟨kq, x96_23, rfl, HA, HJ23, HO_10, HO_14, HB⟩ := hcut
                      cases kq with
                      | zero => exact absurd HA.out (by simp [palinglaw20_LevelNone.j2])
                      | succ kj23 =>
                        have H := HA.out
                        clear HA
                        simp only [palinglaw20_LevelNone.j2] at H
                        by_cases c48 : x96_23 = true
                        · subst c48
                          have H1 : (some false) = some r := by rw [if_pos rfl] at H; exact H
                          clear H
                          have H := H1
                          clear H1
                          obtain rfl := Option.some.inj H
                          go_wp2
                          go_ret
                          exact ⟨by first | rfl | (simp [errW_none, errW_some] <;> rfl) | (simp [*, errW_none, errW_some] <;> rfl), by repeat (first | (with_reducible first | exact HB.out | apply below_alloc | apply pw_below_drewN | apply below_drew1) | exact HB.out)⟩
                        · replace c48 := Bool.eq_false_iff.mpr c48
                          subst c48
                          have H1 : (palinglaw20_LevelNone.l1 kj23 t162 x11_2 t172 0) = some r := by rw [if_neg (show ¬ (false = true) by decide)] at H; exact H
                          clear H
                          have H := H1
                          clear H1
                          have H' := Aside0.mk H
                          clear H
                          go_wp2
                          go_loopg [15] kj23 (fun kq v15 w' => ∃ (x15_4 : Int), v15 = .int .i64 x15_4 ∧ Aside0 (palinglaw20_LevelNone.l1 kq t162 x11_2 t172 x15_4 = some r) ∧ Aside0 (kq ≤ kj23) ∧ Aside0 (Kd.R (Kd.int .i64) 3 w' w.heap.size (fun k_ => some k_ ≠ (v173 : Value).ownBlock) v163 t162) ∧ Aside0 (Kd.R (Kd.int .i64) 3 w' w.heap.size (fun k_ => some k_ ≠ (v163 : Value).ownBlock) v173 t172) ∧ Aside0 (Below w.heap.size w w'))
                          case atStart => exact ⟨(0), (by first | rfl | (simp; done) | (simp [*]; done)), H', ⟨Nat.le_refl _⟩, ⟨by (with_reducible repeat (first | apply Kd.R_alloc | apply Kd.R_drewN | apply Kd.R_drew)); exact HO_10.out⟩, ⟨by (with_reducible repeat (first | apply Kd.R_alloc | apply Kd.R_drewN | apply Kd.R_drew)); exact HO_14.out⟩, ⟨by repeat (first | (with_reducible first | exact HB.out | apply below_alloc | apply pw_below_drewN | apply below_drew1) | exact HB.out)⟩⟩
                          case round =>
                            clear H'
                            try clear c1
                            try clear p1
                            try clear q1
                            try clear hx1
                            try clear c2
                            try clear p2
                            try clear c3
                            try clear c4
                            try clear c5
                            try clear c6
                            try clear p6
                            try clear c8
                            try clear c8b0
                            try clear c8b1
                            try clear c9
                            try clear c9b0
                            try clear c9b1
                            try clear c11
                            try clear c13
                            try clear c15
                            try clear p16
                            try clear q16
                            try clear hx16
                            try clear c18
                            try clear c18b0
                            try clear c19
                            try clear c20
                            try clear c20b0
                            try clear c21
                            try clear c22
                            try clear c30
                            try clear c32
                            try clear c34
                            try clear c43
                            try clear c48
                            try clear hx165_0
                            try clear hx165_1
                            try clear hx165_2
                            try clear hx165_3
                            try clear hx165_4
                            try clear hx165_5
                            try clear hx165_6
                            try clear p1
                            try clear p16
                            try clear p165
                            try clear p2
                            try clear p6
                            try clear q1
                            try clear q16
                            try clear q165
                            obtain ⟨x15_4, rfl, HA, HK4, HO_10, HO_14, HB⟩ := hrel
                            cases gk with
                            | zero => exact absurd HA.out (by simp [palinglaw20_LevelNone.l1])
                            | succ k4 =>
                              have H := HA.out
                              clear HA
                              simp only [palinglaw20_LevelNone.l1] at H
                              by_cases c49 : x15_4 < (t162.length : Int)
                              · rw [if_pos c49] at H
                                have c49b0 : decide (x15_4 < (t162.length : Int)) = true := decide_eq_true c49
                                clear c49
                                by_cases c50 : 0 ≤ x15_4
                                · rw [if_pos c50] at H
                                  have c50b0 : decide (0 ≤ x15_4) = true := decide_eq_true c50
                                  clear c50
                                  replace H := Option.bind_eq_some_iff.mp H
                                  obtain ⟨t182, A510, H⟩ := H
                                  replace H : (if t182 = true then (palinglaw20_LevelNone.l1 k4 t162 x11_2 t172 (wrap64 (x15_4 + 1))) else (some false)) = some r := H
                                  have A51 := Aside0.mk A510
                                  clear A510
                                  by_cases c52 : t182 = true
                                  · subst c52
                                    have H1 : (palinglaw20_LevelNone.l1 k4 t162 x11_2 t172 (wrap64 (x15_4 + 1))) = some r := by rw [if_pos rfl] at H; exact H
                                    clear H
                                    have H := H1
                                    clear H1
                                    have H' := Aside0.mk H
                                    clear H
                                    obtain ⟨Ao53, co53, eo53⟩ := Kd.R_slice HO_10.out
                                    subst eo53
                                    have p181 : 0 ≤ (x15_4 : Int) := of_decide_eq_true (by first | (with_reducible assumption) | assumption)
                                    have q181 : x15_4 < (t162.length : Int) := of_decide_eq_true (by first | (with_reducible assumption) | assumption)
                                    obtain ⟨ad181, e181, hx181_0⟩ := Kd.at_int (Kd.R_reads' HO_10.out).2.2 x15_4 p181 q181
                                    cases e181
                                    replace p181 := eq_true p181
                                    replace q181 := eq_true q181
                                    obtain ⟨Ao54, co54, eo54⟩ := Kd.R_slice HO_14.out
                                    subst eo54
                                    go_wp2_with (first | ((with_reducible refine gate_callee (f := 15) rfl ?_); refine goesL_ (some 108) rfl rfl Try.func15 (by kernel_rfl) rfl #[.slice Ao54 t172.length co54, .int .i64 (rd t162 x15_4)] rfl (by (try simp only [List.map_toArray, List.map_cons, List.map_nil]); first | done | rfl | (simp only [List.length_drop, List.length_take]; rfl)) ?_; (with_reducible refine (palinglaw20_has.calls k4 _ _ t172 (rd t162 x15_4) true _ ?side1 ?side2 A51.out).mono ?_); (case side1 => repeat (first | exact (Kd.R_reads' HO_14.out).2.2 | (with_reducible refine Kd.C_alloc ?_ _) | (with_reducible refine Kd.C_drewN ?_ _) | (with_reducible refine Kd.C_drew ?_))); (case side2 => exact (Kd.R_reads' HO_14.out).2.1); rintro e w' ⟨rfl, ⟨nd, rfl⟩⟩; refine ⟨_, rfl, ?_⟩))
                                    go_roundg k4
                                    case measure => have := HJ5.out; have := HK2.out; have := HJ23.out; have := HK4.out; omega
                                    case rel => exact ⟨(wrap64 (x15_4 + 1)), (by first | rfl | (simp; done) | (simp [*]; done)), H', ⟨by have := HJ5.out; have := HK2.out; have := HJ23.out; have := HK4.out; omega⟩, ⟨by (with_reducible repeat (first | apply Kd.R_alloc | apply Kd.R_drewN | apply Kd.R_drew)); exact HO_10.out⟩, ⟨by (with_reducible repeat (first | apply Kd.R_alloc | apply Kd.R_drewN | apply Kd.R_drew)); exact HO_14.out⟩, ⟨by repeat (first | (with_reducible first | exact HB.out | apply below_alloc | apply pw_below_drewN | apply below_drew1) | exact HB.out)⟩⟩
                                  · replace c52 := Bool.eq_false_iff.mpr c52
                                    subst c52
                                    have H1 : (some false) = some r := by rw [if_neg (show ¬ (false = true) by decide)] at H; exact H
                                    clear H
                                    have H := H1
                                    clear H1
                                    obtain rfl := Option.some.inj H
                                    obtain ⟨Ao55, co55, eo55⟩ := Kd.R_slice HO_10.out
                                    subst eo55
                                    have p181 : 0 ≤ (x15_4 : Int) := of_decide_eq_true (by first | (with_reducible assumption) | assumption)
                                    have q181 : x15_4 < (t162.length : Int) := of_decide_eq_true (by first | (with_reducible assumption) | assumption)
                                    obtain ⟨ad181, e181, hx181_0⟩ := Kd.at_int (Kd.R_reads' HO_10.out).2.2 x15_4 p181 q181
                                    cases e181
                                    replace p181 := eq_true p181
                                    replace q181 := eq_true q181
                                    obtain ⟨Ao56, co56, eo56⟩ := Kd.R_slice HO_14.out
                                    subst eo56
                                    go_wp2_with (first | ((with_reducible refine gate_callee (f := 15) rfl ?_); refine goesL_ (some 108) rfl rfl Try.func15 (by kernel_rfl) rfl #[.slice Ao56 t172.length co56, .int .i64 (rd t162 x15_4)] rfl (by (try simp only [List.map_toArray, List.map_cons, List.map_nil]); first | done | rfl | (simp only [List.length_drop, List.length_take]; rfl)) ?_; (with_reducible refine (palinglaw20_has.calls k4 _ _ t172 (rd t162 x15_4) false _ ?side1 ?side2 A51.out).mono ?_); (case side1 => repeat (first | exact (Kd.R_reads' HO_14.out).2.2 | (with_reducible refine Kd.C_alloc ?_ _) | (with_reducible refine Kd.C_drewN ?_ _) | (with_reducible refine Kd.C_drew ?_))); (case side2 => exact (Kd.R_reads' HO_14.out).2.1); rintro e w' ⟨rfl, ⟨nd, rfl⟩⟩; refine ⟨_, rfl, ?_⟩))
                                    go_ret
                                    exact ⟨by first | rfl | (simp [errW_none, errW_some] <;> rfl) | (simp [*, errW_none, errW_some] <;> rfl), by repeat (first | (with_reducible first | exact HB.out | apply below_alloc | apply pw_below_drewN | apply below_drew1) | exact HB.out)⟩
                                · rw [if_neg c50] at H
                                  exact absurd H (by simp)
                              · rw [if_neg c49] at H
                                have c49b0 : decide (x15_4 < (t162.length : Int)) = false := decide_eq_false c49
                                clear c49
                                by_cases c57 : x11_2 = true
                                · subst c57
                                  have H1 : (some true) = some r := by rw [if_pos rfl] at H; exact H
                                  clear H
                                  have H := H1
                                  clear H1
                                  obtain rfl := Option.some.inj H
                                  obtain ⟨Ao58, co58, eo58⟩ := Kd.R_slice HO_10.out
                                  subst eo58
                                  go_wp2
                                  go_ret
                                  exact ⟨by first | rfl | (simp [errW_none, errW_some] <;> rfl) | (simp [*, errW_none, errW_some] <;> rfl), by repeat (first | (with_reducible first | exact HB.out | apply below_alloc | apply pw_below_drewN | apply below_drew1) | exact HB.out)⟩
                                · replace c57 := Bool.eq_false_iff.mpr c57
                                  subst c57
                                  have H1 : (some ((t162.length : Int) == 0)) = some r := by rw [if_neg (show ¬ (false = true) by decide)] at H; exact H
                                  clear H
                                  have H := H1
                                  clear H1
                                  obtain rfl := Option.some.inj H
                                  obtain ⟨Ao59, co59, eo59⟩ := Kd.R_slice HO_10.out
                                  subst eo59
                                  go_wp2
                                  go_ret
                                  exact ⟨by first | rfl | (simp [errW_none, errW_some] <;> rfl) | (simp [*, errW_none, errW_some] <;> rfl), by repeat (first | (with_reducible first | exact HB.out | apply below_alloc | apply pw_below_drewN | apply below_drew1) | exact HB.out)⟩
                  · rw [if_neg c22] at H
                    exact absurd H (by simp)
                · rw [if_neg c21] at H
                  exact absurd H (by simp)
  · replace c5 := Bool.eq_false_iff.mpr c5
    subst c5
    have H1 : (some false) = some r := by rw [if_neg (show ¬ (false = true) by decide)] at H; exact H
    clear H
    have H := H1
    clear H1
    obtain rfl := Option.some.inj H
    go_enter Try.func5, Try.ntmps5
    go_wp2_with (first | ((with_reducible refine gate_callee (f := 6) rfl ?_); refine goesL_ (some 16) rfl rfl Try.func6 (by kernel_rfl) rfl #[] rfl (by (try simp only [List.map_toArray, List.map_cons, List.map_nil]); first | done | rfl | (simp only [List.length_drop, List.length_take]; rfl)) ?_; (with_reducible refine (palinglaw20_awake.calls k  false _ A4.out).mono ?_); rintro e w60 ⟨rfl, hb⟩; refine ⟨_, rfl, ?_⟩; have n0_ := Aside0.mk (below_step (by repeat (first | (with_reducible first | exact HB.out | apply below_alloc | apply pw_below_drewN | apply below_drew1) | exact HB.out)) hb); clear HB; have HB := n0_; clear n0_; (try clear hb); (try clear hb2); (try clear hk); (try clear hi)))
    go_ret
    exact ⟨by first | rfl | (simp [errW_none, errW_some] <;> rfl) | (simp [*, errW_none, errW_some] <;> rfl), by repeat (first | (with_reducible first | exact HB.out | apply below_alloc | apply pw_below_drewN | apply below_drew1) | exact HB.out)⟩

end Go.Proofs.Ytndhhnhhnkkpbaa.PLevelNone
