-- Written by print2.py over the kit's printer. Not trusted: Lean checks it.
import Derived.Test.YtdopacgaklaaeaaDoorPDeadTellshqq
import Derived.Test.YtdopacgaklaaeaaDoorPDeadTellsx0
namespace Go.Proofs.YtdopacgaklaaeaaDoor.PDeadTells
open Go.RowKit Go.Proofs.YtdopacgaklaaeaaDoorW.PrintWords Go.Proofs.YtdopacgaklaaeaaDoorW.PrintLast Go.Proofs.YtdopacgaklaaeaaDoorW.PrintMore
attribute [local go_sem] max2_int min2_int max_two min_two max_three min_three max_four min_four   -- for this text's walks alone
set_option linter.unusedVariables false
set_option linter.unusedSimpArgs false

/-! ### palingref18_has: function 29 -/
def palingref18_has.l0 : Nat → List Int → Int → Int → Option (Bool)
  | 0, _, _, _ => none
  | k + 1, x0, x1, x5 => if x5 < (x0.length : Int) then (if 0 ≤ x5 then (if (rd x0 x5) = x1 then (some true) else (palingref18_has.l0 k x0 x1 (wrap64 (x5 + 1)))) else (none)) else (some false)
def palingref18_has.f (k : Nat) (l0 : List Int) (a1 : Int) : Option (Bool) := palingref18_has.l0 k l0 a1 0
theorem palingref18_has.mono_l : ∀ k, (∀ y0 y1 y2, LeO (palingref18_has.l0 k y0 y1 y2) (palingref18_has.l0 (k + 1) y0 y1 y2))
  | 0 => fun _ _ _ r h => by simp [palingref18_has.l0] at h
  | k + 1 => by
    have ih0 := palingref18_has.mono_l k
    intros <;> unfold palingref18_has.l0 <;> repeat' (first | (with_reducible first | exact ih0 _ _ _ | exact LeO.refl _ | exact LeO.none _ | refine LeO.ite ?_ ?_ | refine LeO.bind ?_ (fun _ => ?_)) | exact ih0 _ _ _ | exact LeO.none _ | refine LeO.ite ?_ ?_ | refine LeO.bind ?_ (fun _ => ?_))
theorem palingref18_has.mono : ∀ a0 a1 k, LeO (palingref18_has.f k a0 a1) (palingref18_has.f (k + 1) a0 a1) := by
 intro a0 a1 k
 have ih0 := palingref18_has.mono_l k
 unfold palingref18_has.f
 repeat' (first | (with_reducible first | exact ih0 _ _ _ | exact LeO.refl _ | exact LeO.none _ | refine LeO.ite ?_ ?_ | refine LeO.bind ?_ (fun _ => ?_)) | exact ih0 _ _ _ | exact LeO.none _ | refine LeO.ite ?_ ?_ | refine LeO.bind ?_ (fun _ => ?_))
set_option maxHeartbeats 8000000 in
set_option maxRecDepth 100000 in
theorem palingref18_has.calls (k : Nat) (A0 : Option Addr) (c0 : Nat) (l0 : List Int) (a1 : Int) (r : Bool) (w : World) (hr0 : Kd.C (Kd.int .i64) w A0 l0.length l0) (hc0 : l0.length ≤ c0) (h : palingref18_has.f k l0 a1 = some r) :
    Calls Tryd.prog 29 #[.slice A0 l0.length c0, .int .i64 a1] w fun e w' => e = .returned (.bool r) ∧ Drawn0 w w' := by
 have HR0 := Aside0.mk hr0
 have HC0 := Aside0.mk hc0
 clear hr0 hc0
 have H : (palingref18_has.l0 k l0 a1 0) = some r := h
 clear h
 have H' := Aside0.mk H
 clear H
 go_enter Tryd.func29, Tryd.ntmps29
 go_wp2
 go_loopg [5] k (fun kq v5 w' => ∃ (x5_1 : Int), v5 = .int .i64 x5_1 ∧ Aside0 (palingref18_has.l0 kq l0 a1 x5_1 = some r) ∧ Aside0 (kq ≤ k) ∧ Drawn0 w w')
 case atStart => exact ⟨(0), aq5, H', ⟨Nat.le_refl _⟩, aq16⟩
 case round =>
  clear H'
  obtain ⟨x5_1, rfl, HA, HK1, ⟨m1, rfl⟩⟩ := hrel
  cases gk with
  | zero => exact absurd HA.out (by simp [palingref18_has.l0])
  | succ k1 =>
   have H := HA.out
   clear HA
   simp only [palingref18_has.l0] at H
   by_cases c3 : x5_1 < (l0.length : Int)
   rotate_left
   ·rw [if_neg c3] at H
    have c3b0 : decide (x5_1 < (l0.length : Int)) = false := decide_eq_false c3
    clear c3
    obtain rfl := Option.some.inj H
    go_wp2
    go_ret
    exact ⟨aq5, aq16⟩
   rw [if_pos c3] at H
   have c3b0 : decide (x5_1 < (l0.length : Int)) = true := decide_eq_true c3
   clear c3
   by_cases c4 : 0 ≤ x5_1
   rotate_left
   ·rw [if_neg c4] at H
    exact absurd H (by simp)
   rw [if_pos c4] at H
   have c4b0 : decide (0 ≤ x5_1) = true := decide_eq_true c4
   clear c4
   by_cases c5 : (rd l0 x5_1) = a1
   ·rw [if_pos c5] at H
    have c5b0 : ((rd l0 x5_1) == a1) = true := beq_iff_eq.mpr c5
    have c5b1 : ((rd l0 x5_1) != a1) = false := bne_eq_false_iff_eq.mpr c5
    clear c5
    obtain rfl := Option.some.inj H
    have p365 : 0 ≤ (x5_1 : Int) := of_decide_eq_true aq2
    have q365 : x5_1 < (l0.length : Int) := of_decide_eq_true aq2
    obtain ⟨ad365, e365, hx365_0⟩ := Kd.at_int HR0.out x5_1 p365 q365
    cases e365
    replace p365 := eq_true p365
    replace q365 := eq_true q365
    go_wp2
    go_ret
    exact ⟨aq5, aq16⟩
   rw [if_neg c5] at H
   have c5b0 : ((rd l0 x5_1) == a1) = false := beq_eq_false_iff_ne.mpr c5
   have c5b1 : ((rd l0 x5_1) != a1) = true := bne_iff_ne.mpr c5
   have H' := Aside0.mk H
   clear H
   have p365 : 0 ≤ (x5_1 : Int) := of_decide_eq_true aq2
   have q365 : x5_1 < (l0.length : Int) := of_decide_eq_true aq2
   obtain ⟨ad365, e365, hx365_0⟩ := Kd.at_int HR0.out x5_1 p365 q365
   cases e365
   replace p365 := eq_true p365
   replace q365 := eq_true q365
   go_wp2
   go_roundg k1
   case measure => have := HK1.out; omega
   case rel => exact ⟨(wrap64 (x5_1 + 1)), aq5, H', ⟨aq47⟩, aq16⟩
end Go.Proofs.YtdopacgaklaaeaaDoor.PDeadTells
