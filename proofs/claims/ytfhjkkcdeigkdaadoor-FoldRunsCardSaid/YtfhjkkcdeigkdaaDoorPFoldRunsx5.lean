-- Written by print2.py over the kit's printer. Not trusted: Lean checks it.
import Derived.Test.YtfhjkkcdeigkdaaDoorPFoldRunshqq
import Derived.Test.YtfhjkkcdeigkdaaDoorPFoldRunsx0
import Derived.Test.YtfhjkkcdeigkdaaDoorPFoldRunsx1
namespace Go.Proofs.YtfhjkkcdeigkdaaDoor.PFoldRuns
open Go.RowKit Go.Proofs.YtfhjkkcdeigkdaaDoorW.PrintWords Go.Proofs.YtfhjkkcdeigkdaaDoorW.PrintLast Go.Proofs.YtfhjkkcdeigkdaaDoorW.PrintMore
attribute [local go_sem] max2_int min2_int max_two min_two max_three min_three max_four min_four   -- for this text's walks alone
set_option linter.unusedVariables false
set_option linter.unusedSimpArgs false

attribute [local go_sem high] eqA53
/-! ### palingref13_Same: function 11 -/
def palingref13_Same.l0 : Nat → List (S53) → List (S53) → Int → Option (Bool)
  | 0, _, _, _ => none
  | k + 1, x0, x1, x5 => if x5 < (x0.length : Int) then (if 0 ≤ x5 then (if x5 < (x1.length : Int) then (if (!(((rd_T53 x0 x5).f0) == ((rd_T53 x1 x5).f0)) || (!(((rd_T53 x0 x5).f1) == ((rd_T53 x1 x5).f1)) || (!(((rd_T53 x0 x5).f2) == ((rd_T53 x1 x5).f2)) || (!(((rd_T53 x0 x5).f3) == ((rd_T53 x1 x5).f3)) || (!(((rd_T53 x0 x5).f4) == ((rd_T53 x1 x5).f4)) || (!(((rd_T53 x0 x5).f5) == ((rd_T53 x1 x5).f5)) || (!(((rd_T53 x0 x5).f6) == ((rd_T53 x1 x5).f6))))))))) = true then (some false) else (palingref13_Same.l0 k x0 x1 (wrap64 (x5 + 1)))) else (none)) else (none)) else (some true)
def palingref13_Same.f (k : Nat) (l0 : List (S53)) (l1 : List (S53)) : Option (Bool) := if (l0.length : Int) = (l1.length : Int) then (palingref13_Same.l0 k l0 l1 0) else (none)
theorem palingref13_Same.mono_l : ∀ k, (∀ y0 y1 y2, LeO (palingref13_Same.l0 k y0 y1 y2) (palingref13_Same.l0 (k + 1) y0 y1 y2))
  | 0 => fun _ _ _ r h => by simp [palingref13_Same.l0] at h
  | k + 1 => by
    have ih0 := palingref13_Same.mono_l k
    intros <;> unfold palingref13_Same.l0 <;> repeat' (first | (with_reducible first | exact ih0 _ _ _ | exact LeO.refl _ | exact LeO.none _ | refine LeO.ite ?_ ?_ | refine LeO.bind ?_ (fun _ => ?_)) | exact ih0 _ _ _ | exact LeO.none _ | refine LeO.ite ?_ ?_ | refine LeO.bind ?_ (fun _ => ?_))
theorem palingref13_Same.mono : ∀ a0 a1 k, LeO (palingref13_Same.f k a0 a1) (palingref13_Same.f (k + 1) a0 a1) := by
 intro a0 a1 k
 have ih0 := palingref13_Same.mono_l k
 unfold palingref13_Same.f
 repeat' (first | (with_reducible first | exact ih0 _ _ _ | exact LeO.refl _ | exact LeO.none _ | refine LeO.ite ?_ ?_ | refine LeO.bind ?_ (fun _ => ?_)) | exact ih0 _ _ _ | exact LeO.none _ | refine LeO.ite ?_ ?_ | refine LeO.bind ?_ (fun _ => ?_))
set_option maxHeartbeats 8000000 in
set_option maxRecDepth 100000 in
theorem palingref13_Same.calls (k : Nat) (A0 : Option Addr) (c0 : Nat) (l0 : List (S53)) (A1 : Option Addr) (c1 : Nat) (l1 : List (S53)) (r : Bool) (w : World) (hr0 : Kd.C k53 w A0 l0.length l0) (hc0 : l0.length ≤ c0) (hr1 : Kd.C k53 w A1 l1.length l1) (hc1 : l1.length ≤ c1) (h : palingref13_Same.f k l0 l1 = some r) :
    Calls Tryd.prog 11 #[.slice A0 l0.length c0, .slice A1 l1.length c1] w fun e w' => e = .returned (.bool r) ∧ Drawn0 w w' := by
 have hu53 := Tryd.underlying53
 have HR0 := Aside0.mk hr0
 have HC0 := Aside0.mk hc0
 clear hr0 hc0
 have HR1 := Aside0.mk hr1
 have HC1 := Aside0.mk hc1
 clear hr1 hc1
 have H : (if (l0.length : Int) = (l1.length : Int) then (palingref13_Same.l0 k l0 l1 0) else (none)) = some r := h
 clear h
 by_cases c3 : (l0.length : Int) = (l1.length : Int)
 rotate_left
 ·rw [if_neg c3] at H
  have c3b0 : ((l0.length : Int) == (l1.length : Int)) = false := beq_eq_false_iff_ne.mpr c3
  have c3b1 : ((l0.length : Int) != (l1.length : Int)) = true := bne_iff_ne.mpr c3
  have c3b2 : (l0.length == l1.length) = false := by first | simpa using c3 | (simp at c3 ⊢; omega)
  exact absurd H (by simp)
 rw [if_pos c3] at H
 have c3b0 : ((l0.length : Int) == (l1.length : Int)) = true := beq_iff_eq.mpr c3
 have c3b1 : ((l0.length : Int) != (l1.length : Int)) = false := bne_eq_false_iff_eq.mpr c3
 have c3b2 : (l0.length == l1.length) = true := by first | simpa using c3 | (simp at c3 ⊢; omega)
 clear c3
 have H' := Aside0.mk H
 clear H
 go_enter Tryd.func11, Tryd.ntmps11
 go_wp2
 repeat (go_quiet (fail); try go_wp2)
 go_loopg [5] k (fun kq v5 w' => ∃ (x5_1 : Int), v5 = .int .i64 x5_1 ∧ Aside0 (palingref13_Same.l0 kq l0 l1 x5_1 = some r) ∧ Aside0 (kq ≤ k) ∧ Drawn0 w w')
 case atStart => exact ⟨(0), aq1, H', ⟨Nat.le_refl _⟩, aq2⟩
 case round =>
  clear H'
  obtain ⟨x5_1, rfl, HA, HK1, ⟨m1, rfl⟩⟩ := hrel
  cases gk with
  | zero => exact absurd HA.out (by simp [palingref13_Same.l0])
  | succ k1 =>
   have H := HA.out
   clear HA
   simp only [palingref13_Same.l0] at H
   by_cases c4 : x5_1 < (l0.length : Int)
   rotate_left
   ·rw [if_neg c4] at H
    have c4b0 : decide (x5_1 < (l0.length : Int)) = false := decide_eq_false c4
    clear c4
    obtain rfl := Option.some.inj H
    go_wp2
    repeat (go_quiet (fail); try go_wp2)
    go_ret
    exact ⟨aq1, aq2⟩
   rw [if_pos c4] at H
   have c4b0 : decide (x5_1 < (l0.length : Int)) = true := decide_eq_true c4
   clear c4
   by_cases c5 : 0 ≤ x5_1
   rotate_left
   ·rw [if_neg c5] at H
    exact absurd H (by simp)
   rw [if_pos c5] at H
   have c5b0 : decide (0 ≤ x5_1) = true := decide_eq_true c5
   clear c5
   by_cases c6 : x5_1 < (l1.length : Int)
   rotate_left
   ·rw [if_neg c6] at H
    exact absurd H (by simp)
   rw [if_pos c6] at H
   have c6b0 : decide (x5_1 < (l1.length : Int)) = true := decide_eq_true c6
   clear c6
   by_cases c7 : (!(((rd_T53 l0 x5_1).f0) == ((rd_T53 l1 x5_1).f0)) || (!(((rd_T53 l0 x5_1).f1) == ((rd_T53 l1 x5_1).f1)) || (!(((rd_T53 l0 x5_1).f2) == ((rd_T53 l1 x5_1).f2)) || (!(((rd_T53 l0 x5_1).f3) == ((rd_T53 l1 x5_1).f3)) || (!(((rd_T53 l0 x5_1).f4) == ((rd_T53 l1 x5_1).f4)) || (!(((rd_T53 l0 x5_1).f5) == ((rd_T53 l1 x5_1).f5)) || (!(((rd_T53 l0 x5_1).f6) == ((rd_T53 l1 x5_1).f6))))))))) = true
   ·rw [if_pos c7] at H
    have c7b0 : (!(((rd_T53 l0 x5_1).f0) == ((rd_T53 l1 x5_1).f0)) || (!(((rd_T53 l0 x5_1).f1) == ((rd_T53 l1 x5_1).f1)) || (!(((rd_T53 l0 x5_1).f2) == ((rd_T53 l1 x5_1).f2)) || (!(((rd_T53 l0 x5_1).f3) == ((rd_T53 l1 x5_1).f3)) || (!(((rd_T53 l0 x5_1).f4) == ((rd_T53 l1 x5_1).f4)) || (!(((rd_T53 l0 x5_1).f5) == ((rd_T53 l1 x5_1).f5)) || (!(((rd_T53 l0 x5_1).f6) == ((rd_T53 l1 x5_1).f6))))))))) = true := c7
    clear c7
    obtain rfl := Option.some.inj H
    have p135 : 0 ≤ (x5_1 : Int) := of_decide_eq_true aq4
    have q135 : x5_1 < (l0.length : Int) := of_decide_eq_true aq4
    obtain ⟨ad135, e135, hx135_0, hx135_1, hx135_2, hx135_3, hx135_4, hx135_5, hx135_6⟩ := at_T53 HR0.out x5_1 p135 q135
    cases e135
    replace p135 := eq_true p135
    replace q135 := eq_true q135
    have p136 : 0 ≤ (x5_1 : Int) := of_decide_eq_true aq4
    have q136 : x5_1 < (l1.length : Int) := of_decide_eq_true aq4
    obtain ⟨ad136, e136, hx136_0, hx136_1, hx136_2, hx136_3, hx136_4, hx136_5, hx136_6⟩ := at_T53 HR1.out x5_1 p136 q136
    cases e136
    replace p136 := eq_true p136
    replace q136 := eq_true q136
    go_wp2
    repeat (go_quiet (fail); try go_wp2)
    go_ret
    exact ⟨aq1, aq2⟩
   rw [if_neg c7] at H
   have c7b0 : (!(((rd_T53 l0 x5_1).f0) == ((rd_T53 l1 x5_1).f0)) || (!(((rd_T53 l0 x5_1).f1) == ((rd_T53 l1 x5_1).f1)) || (!(((rd_T53 l0 x5_1).f2) == ((rd_T53 l1 x5_1).f2)) || (!(((rd_T53 l0 x5_1).f3) == ((rd_T53 l1 x5_1).f3)) || (!(((rd_T53 l0 x5_1).f4) == ((rd_T53 l1 x5_1).f4)) || (!(((rd_T53 l0 x5_1).f5) == ((rd_T53 l1 x5_1).f5)) || (!(((rd_T53 l0 x5_1).f6) == ((rd_T53 l1 x5_1).f6))))))))) = false := by simpa using c7
   clear c7
   have H' := Aside0.mk H
   clear H
   have p135 : 0 ≤ (x5_1 : Int) := of_decide_eq_true aq4
   have q135 : x5_1 < (l0.length : Int) := of_decide_eq_true aq4
   obtain ⟨ad135, e135, hx135_0, hx135_1, hx135_2, hx135_3, hx135_4, hx135_5, hx135_6⟩ := at_T53 HR0.out x5_1 p135 q135
   cases e135
   replace p135 := eq_true p135
   replace q135 := eq_true q135
   have p136 : 0 ≤ (x5_1 : Int) := of_decide_eq_true aq4
   have q136 : x5_1 < (l1.length : Int) := of_decide_eq_true aq4
   obtain ⟨ad136, e136, hx136_0, hx136_1, hx136_2, hx136_3, hx136_4, hx136_5, hx136_6⟩ := at_T53 HR1.out x5_1 p136 q136
   cases e136
   replace p136 := eq_true p136
   replace q136 := eq_true q136
   go_wp2
   repeat (go_quiet (fail); try go_wp2)
   go_roundg k1
   case measure => have := HK1.out; omega
   case rel => exact ⟨(wrap64 (x5_1 + 1)), aq1, H', ⟨aq15⟩, aq2⟩
end Go.Proofs.YtfhjkkcdeigkdaaDoor.PFoldRuns
