import Derived.Test.YtfhjkkcdeigkdaaDoorPFoldRunsx0
import Derived.Test.YtfhjkkcdeigkdaaDoorPFoldRunsx3
import Derived.Test.YtfhjkkcdeigkdaaDoorPFoldRunsx4
import Derived.Test.YtfhjkkcdeigkdaaDoorPFoldRunshg3
import Derived.Test.YtfhjkkcdeigkdaaDoorPFoldRunshg6
import Derived.Test.YtfhjkkcdeigkdaaDoorPFoldRunshg0
import Derived.Deep.QuietTactic
import Derived.BigQuiet
import Derived.Deep.RegionWith
namespace Go.Proofs.YtfhjkkcdeigkdaaDoor.PFoldRuns
open Go.RowKit Go.Proofs.YtfhjkkcdeigkdaaDoorW.PrintWords Go.Proofs.YtfhjkkcdeigkdaaDoorW.PrintLast Go.Proofs.YtfhjkkcdeigkdaaDoorW.PrintMore
set_option linter.unusedVariables false
set_option linter.unusedSimpArgs false
open Go.MapKept Go.RowKit
/-! calc.Eval: its closures, and the walk. -/
def toldL (b : Bool) : Int := if b = true then 1 else 0
theorem told_f (b : Bool) : calc_told.f b = some (toldL b) := by unfold calc_told.f toldL; cases b <;> rfl
theorem one_f (b : Bool) : palingref01_one.f b = some (toldL b) := by unfold palingref01_one.f toldL; cases b <;> rfl
def divL (a b : Int) : Int := if b = 0 then 0 else if b = -1 then wrap64 (-a) else wrap64 (Int.tdiv a b)
theorem divide_f (a b : Int) : calc_divide.f a b = some (divL a b) := by unfold calc_divide.f divL; split; rfl; split <;> rfl
theorem div_f (a b : Int) : palingref01_div.f a b = some (divL a b) := by unfold palingref01_div.f divL; split; rfl; split <;> rfl
theorem ev_of {o a b v : Int} (h : palingref01_Eval.f 100 o a b = some v) : evalL o a b = v := by unfold evalL; rw [h]; rfl
theorem ev0_eq (a b : Int) : evalL 0 a b = wrap64 (a + b) := ev_of rfl
theorem ev1_eq (a b : Int) : evalL 1 a b = wrap64 (a - b) := ev_of rfl
theorem ev2_eq (a b : Int) : evalL 2 a b = wrap64 (a * b) := ev_of rfl
theorem ev3_eq (a b : Int) : evalL 3 a b = divL a b := ev_of (by rw [show palingref01_Eval.f 100 3 a b = ((palingref01_div.f a b).bind fun t => some t) from rfl, div_f]; rfl)
theorem ev4_eq (a b : Int) : evalL 4 a b = wrap64 (a - wrap64 (b * divL a b)) := ev_of (by rw [show palingref01_Eval.f 100 4 a b = ((palingref01_div.f a b).bind fun t => some (wrap64 (a - wrap64 (b * t)))) from rfl, div_f]; rfl)
theorem ev5_eq (a b : Int) : evalL 5 a b = bits .and .i64 a b := ev_of rfl
theorem ev6_eq (a b : Int) : evalL 6 a b = bits .or .i64 a b := ev_of rfl
theorem ev7_eq (a b : Int) : evalL 7 a b = bits .xor .i64 a b := ev_of rfl
theorem ev10_eq (a b : Int) : evalL 10 a b = toldL (a == b) := ev_of (by rw [show palingref01_Eval.f 100 10 a b = ((palingref01_one.f (a == b)).bind fun t => some t) from rfl, one_f]; rfl)
theorem ev11_eq (a b : Int) : evalL 11 a b = toldL (a != b) := ev_of (by rw [show palingref01_Eval.f 100 11 a b = ((palingref01_one.f (a != b)).bind fun t => some t) from rfl, one_f]; rfl)
theorem ev12_eq (a b : Int) : evalL 12 a b = toldL (decide (a < b)) := ev_of (by rw [show palingref01_Eval.f 100 12 a b = ((palingref01_one.f (decide (a < b))).bind fun t => some t) from rfl, one_f]; rfl)
theorem ev13_eq (a b : Int) : evalL 13 a b = toldL (decide (a ≤ b)) := ev_of (by rw [show palingref01_Eval.f 100 13 a b = ((palingref01_one.f (decide (a ≤ b))).bind fun t => some t) from rfl, one_f]; rfl)
theorem ev14_eq (a b : Int) : evalL 14 a b = toldL (decide (a > b)) := ev_of (by rw [show palingref01_Eval.f 100 14 a b = ((palingref01_one.f (decide (a > b))).bind fun t => some t) from rfl, one_f]; rfl)
theorem ev15_eq (a b : Int) : evalL 15 a b = toldL (decide (a ≥ b)) := ev_of (by rw [show palingref01_Eval.f 100 15 a b = ((palingref01_one.f (decide (a ≥ b))).bind fun t => some t) from rfl, one_f]; rfl)
theorem ev16_eq (a b : Int) : evalL 16 a b = toldL (decide (IntKind.u64.wrap a < IntKind.u64.wrap b)) := ev_of (by rw [show palingref01_Eval.f 100 16 a b = ((palingref01_one.f (decide (IntKind.u64.wrap a < IntKind.u64.wrap b))).bind fun t => some t) from rfl, one_f]; rfl)
theorem ev17_eq (a b : Int) : evalL 17 a b = toldL (a != 0 && b != 0) := ev_of (by rw [show palingref01_Eval.f 100 17 a b = (if a = 0 then ((palingref01_one.f false).bind fun t => some t) else ((palingref01_one.f (b != 0)).bind fun t => some t)) from rfl, one_f, one_f]; by_cases h : a = 0; (subst h; rfl); (rw [if_neg h, show (a != 0) = true from bne_iff_ne.2 h]; rfl))
theorem ev18_eq (a b : Int) : evalL 18 a b = toldL (a != 0 || b != 0) := ev_of (by rw [show palingref01_Eval.f 100 18 a b = (if a = 0 then ((palingref01_one.f (b != 0)).bind fun t => some t) else ((palingref01_one.f true).bind fun t => some t)) from rfl, one_f, one_f]; by_cases h : a = 0; (subst h; rfl); (rw [if_neg h, show (a != 0) = true from bne_iff_ne.2 h]; rfl))
theorem ev_none (o a b : Int) (h : ¬ (0 ≤ o ∧ o ≤ 18)) : evalL o a b = 0 := by
  refine ev_of ?_
  unfold palingref01_Eval.f
  rw [if_neg (by omega)]
  rw [if_neg (by omega)]
  rw [if_neg (by omega)]
  rw [if_neg (by omega)]
  rw [if_neg (by omega)]
  rw [if_neg (by omega)]
  rw [if_neg (by omega)]
  rw [if_neg (by omega)]
  rw [if_neg (by omega)]
  rw [show palingref01_Eval.j0 100 o a b o (o == 9) = (if (o == 9) = true then ((palingref01_shift.f 99 a b (o == 8)).bind fun t142 => (some t142)) else (if o = 10 then ((palingref01_one.f (a == b)).bind fun t143 => (some t143)) else (if o = 11 then ((palingref01_one.f (a != b)).bind fun t144 => (some t144)) else (if o = 12 then ((palingref01_one.f (decide (a < b))).bind fun t145 => (some t145)) else (if o = 13 then ((palingref01_one.f (decide (a ≤ b))).bind fun t146 => (some t146)) else (if o = 14 then ((palingref01_one.f (decide (a > b))).bind fun t147 => (some t147)) else (if o = 15 then ((palingref01_one.f (decide (a ≥ b))).bind fun t148 => (some t148)) else (if o = 16 then ((palingref01_one.f (decide ((IntKind.u64.wrap (a)) < (IntKind.u64.wrap (b))))).bind fun t149 => (some t149)) else (if o = 17 then (if a = 0 then ((palingref01_one.f false).bind fun t150 => (some t150)) else ((palingref01_one.f (b != 0)).bind fun t151 => (some t151))) else (if o = 18 then (if a = 0 then ((palingref01_one.f (b != 0)).bind fun t152 => (some t152)) else ((palingref01_one.f true).bind fun t153 => (some t153))) else (some 0))))))))))) from rfl]
  rw [if_neg (by simp; omega)]
  rw [if_neg (by omega)]
  rw [if_neg (by omega)]
  rw [if_neg (by omega)]
  rw [if_neg (by omega)]
  rw [if_neg (by omega)]
  rw [if_neg (by omega)]
  rw [if_neg (by omega)]
  rw [if_neg (by omega)]
  rw [if_neg (by omega)]
set_option maxRecDepth 100000 in
set_option maxHeartbeats 4000000 in
theorem ev0c (g1 g2 : Nat) (a b : Int) (W : World) (ha : inR a) (h1 : W.cell? ⟨g1, 0, none⟩ = some (.int .i64 a)) (h2 : W.cell? ⟨g2, 0, none⟩ = some (.int .i64 b)) :
    Calls Tryd.prog 56 #[.pointer (some ⟨g1, 0, none⟩), .pointer (some ⟨g2, 0, none⟩)] W fun e w' => e = .returned (.int .i64 (evalL 0 a b)) ∧ Below W.heap.size W w' := by
  rw [ev0_eq]
  clear ha
  go_enter Tryd.func56, Tryd.ntmps56
  go_wp2_with fail
  go_ret
  exact ⟨rfl, Below.refl _ _⟩
set_option maxRecDepth 100000 in
set_option maxHeartbeats 4000000 in
theorem ev1c (g1 g2 : Nat) (a b : Int) (W : World) (ha : inR a) (h1 : W.cell? ⟨g1, 0, none⟩ = some (.int .i64 a)) (h2 : W.cell? ⟨g2, 0, none⟩ = some (.int .i64 b)) :
    Calls Tryd.prog 57 #[.pointer (some ⟨g1, 0, none⟩), .pointer (some ⟨g2, 0, none⟩)] W fun e w' => e = .returned (.int .i64 (evalL 1 a b)) ∧ Below W.heap.size W w' := by
  rw [ev1_eq]
  clear ha
  go_enter Tryd.func57, Tryd.ntmps57
  go_wp2_with fail
  go_ret
  exact ⟨rfl, Below.refl _ _⟩
set_option maxRecDepth 100000 in
set_option maxHeartbeats 4000000 in
theorem ev2c (g1 g2 : Nat) (a b : Int) (W : World) (ha : inR a) (h1 : W.cell? ⟨g1, 0, none⟩ = some (.int .i64 a)) (h2 : W.cell? ⟨g2, 0, none⟩ = some (.int .i64 b)) :
    Calls Tryd.prog 58 #[.pointer (some ⟨g1, 0, none⟩), .pointer (some ⟨g2, 0, none⟩)] W fun e w' => e = .returned (.int .i64 (evalL 2 a b)) ∧ Below W.heap.size W w' := by
  rw [ev2_eq]
  clear ha
  go_enter Tryd.func58, Tryd.ntmps58
  go_wp2_with fail
  go_ret
  exact ⟨rfl, Below.refl _ _⟩
set_option maxRecDepth 100000 in
set_option maxHeartbeats 4000000 in
theorem ev3c (g1 g2 : Nat) (a b : Int) (W : World) (ha : inR a) (h1 : W.cell? ⟨g1, 0, none⟩ = some (.int .i64 a)) (h2 : W.cell? ⟨g2, 0, none⟩ = some (.int .i64 b)) :
    Calls Tryd.prog 59 #[.pointer (some ⟨g1, 0, none⟩), .pointer (some ⟨g2, 0, none⟩)] W fun e w' => e = .returned (.int .i64 (evalL 3 a b)) ∧ Below W.heap.size W w' := by
  rw [ev3_eq]
  have hc := fun W => calc_divide.calls a b (divL a b) W (divide_f a b)
  have HC := Aside0.mk hc
  clear hc
  clear ha
  go_enter Tryd.func59, Tryd.ntmps59
  go_wp2_with fail
  refine (HC.out _).mono ?_
  rintro e w' ⟨rfl, hb⟩
  go_wp2_with fail
  go_ret
  exact ⟨rfl, by obtain ⟨m, rfl⟩ := hb; exact pw_below_drewN (Below.refl _ _) m⟩
set_option maxRecDepth 100000 in
set_option maxHeartbeats 4000000 in
theorem ev4c (g1 g2 : Nat) (a b : Int) (W : World) (ha : inR a) (h1 : W.cell? ⟨g1, 0, none⟩ = some (.int .i64 a)) (h2 : W.cell? ⟨g2, 0, none⟩ = some (.int .i64 b)) :
    Calls Tryd.prog 61 #[.pointer (some ⟨g1, 0, none⟩), .pointer (some ⟨g2, 0, none⟩)] W fun e w' => e = .returned (.int .i64 (evalL 4 a b)) ∧ Below W.heap.size W w' := by
  rw [ev4_eq]
  have hc := fun W => calc_divide.calls a b (divL a b) W (divide_f a b)
  have HC := Aside0.mk hc
  clear hc
  clear ha
  go_enter Tryd.func61, Tryd.ntmps61
  go_wp2_with fail
  go_region_with (first | (go_at_call 60; refine (HC.out _).mono ?_; rintro e w' ⟨rfl, m, rfl⟩))
  all_goals (try (go_wp2_with fail))
  all_goals go_simp
  all_goals go_ret
  all_goals (refine ⟨by first | rfl | (go_simp; done) | (go_simp; simp only [Go.IntWalk.i64_left]), ?_⟩)
  all_goals (first | exact pw_below_drewN (Below.refl _ _) _ | exact pw_below_drewN (pw_below_drewN (Below.refl _ _) _) _)
set_option maxRecDepth 100000 in
set_option maxHeartbeats 4000000 in
theorem ev5c (g1 g2 : Nat) (a b : Int) (W : World) (ha : inR a) (h1 : W.cell? ⟨g1, 0, none⟩ = some (.int .i64 a)) (h2 : W.cell? ⟨g2, 0, none⟩ = some (.int .i64 b)) :
    Calls Tryd.prog 62 #[.pointer (some ⟨g1, 0, none⟩), .pointer (some ⟨g2, 0, none⟩)] W fun e w' => e = .returned (.int .i64 (evalL 5 a b)) ∧ Below W.heap.size W w' := by
  rw [ev5_eq]
  clear ha
  go_enter Tryd.func62, Tryd.ntmps62
  go_wp2_with fail
  go_ret
  exact ⟨rfl, Below.refl _ _⟩
set_option maxRecDepth 100000 in
set_option maxHeartbeats 4000000 in
theorem ev6c (g1 g2 : Nat) (a b : Int) (W : World) (ha : inR a) (h1 : W.cell? ⟨g1, 0, none⟩ = some (.int .i64 a)) (h2 : W.cell? ⟨g2, 0, none⟩ = some (.int .i64 b)) :
    Calls Tryd.prog 63 #[.pointer (some ⟨g1, 0, none⟩), .pointer (some ⟨g2, 0, none⟩)] W fun e w' => e = .returned (.int .i64 (evalL 6 a b)) ∧ Below W.heap.size W w' := by
  rw [ev6_eq]
  clear ha
  go_enter Tryd.func63, Tryd.ntmps63
  go_wp2_with fail
  go_ret
  exact ⟨rfl, Below.refl _ _⟩
set_option maxRecDepth 100000 in
set_option maxHeartbeats 4000000 in
theorem ev7c (g1 g2 : Nat) (a b : Int) (W : World) (ha : inR a) (h1 : W.cell? ⟨g1, 0, none⟩ = some (.int .i64 a)) (h2 : W.cell? ⟨g2, 0, none⟩ = some (.int .i64 b)) :
    Calls Tryd.prog 64 #[.pointer (some ⟨g1, 0, none⟩), .pointer (some ⟨g2, 0, none⟩)] W fun e w' => e = .returned (.int .i64 (evalL 7 a b)) ∧ Below W.heap.size W w' := by
  rw [ev7_eq]
  clear ha
  go_enter Tryd.func64, Tryd.ntmps64
  go_wp2_with fail
  go_ret
  exact ⟨rfl, Below.refl _ _⟩
set_option maxRecDepth 100000 in
set_option maxHeartbeats 4000000 in
theorem ev8c (g1 g2 : Nat) (a b : Int) (W : World) (ha : inR a) (h1 : W.cell? ⟨g1, 0, none⟩ = some (.int .i64 a)) (h2 : W.cell? ⟨g2, 0, none⟩ = some (.int .i64 b)) :
    Calls Tryd.prog 65 #[.pointer (some ⟨g1, 0, none⟩), .pointer (some ⟨g2, 0, none⟩)] W fun e w' => e = .returned (.int .i64 (evalL 8 a b)) ∧ Below W.heap.size W w' := by
  rw [ev_shl a b ha]
  have hs := run_shl a b
  clear ha
  go_enter Tryd.func65, Tryd.ntmps65
  go_wp2_with fail
  go_ret
  exact ⟨rfl, Below.refl _ _⟩
set_option maxRecDepth 100000 in
set_option maxHeartbeats 4000000 in
theorem ev9c (g1 g2 : Nat) (a b : Int) (W : World) (ha : inR a) (h1 : W.cell? ⟨g1, 0, none⟩ = some (.int .i64 a)) (h2 : W.cell? ⟨g2, 0, none⟩ = some (.int .i64 b)) :
    Calls Tryd.prog 66 #[.pointer (some ⟨g1, 0, none⟩), .pointer (some ⟨g2, 0, none⟩)] W fun e w' => e = .returned (.int .i64 (evalL 9 a b)) ∧ Below W.heap.size W w' := by
  rw [ev_shr a b ha]
  have hs := run_shr a b
  clear ha
  go_enter Tryd.func66, Tryd.ntmps66
  go_wp2_with fail
  go_ret
  exact ⟨rfl, Below.refl _ _⟩
set_option maxRecDepth 100000 in
set_option maxHeartbeats 4000000 in
theorem ev10c (g1 g2 : Nat) (a b : Int) (W : World) (ha : inR a) (h1 : W.cell? ⟨g1, 0, none⟩ = some (.int .i64 a)) (h2 : W.cell? ⟨g2, 0, none⟩ = some (.int .i64 b)) :
    Calls Tryd.prog 67 #[.pointer (some ⟨g1, 0, none⟩), .pointer (some ⟨g2, 0, none⟩)] W fun e w' => e = .returned (.int .i64 (evalL 10 a b)) ∧ Below W.heap.size W w' := by
  rw [ev10_eq]
  clear ha
  go_enter Tryd.func67, Tryd.ntmps67
  go_wp2_with fail
  refine (calc_told.calls _ _ _ (told_f _)).mono ?_
  rintro e w' ⟨rfl, hb⟩
  go_wp2_with fail
  go_ret
  obtain ⟨m, rfl⟩ := hb
  first | exact ⟨rfl, pw_below_drewN (Below.refl _ _) m⟩ | exact ⟨by simp, pw_below_drewN (Below.refl _ _) m⟩
set_option maxRecDepth 100000 in
set_option maxHeartbeats 4000000 in
theorem ev11c (g1 g2 : Nat) (a b : Int) (W : World) (ha : inR a) (h1 : W.cell? ⟨g1, 0, none⟩ = some (.int .i64 a)) (h2 : W.cell? ⟨g2, 0, none⟩ = some (.int .i64 b)) :
    Calls Tryd.prog 69 #[.pointer (some ⟨g1, 0, none⟩), .pointer (some ⟨g2, 0, none⟩)] W fun e w' => e = .returned (.int .i64 (evalL 11 a b)) ∧ Below W.heap.size W w' := by
  rw [ev11_eq]
  clear ha
  go_enter Tryd.func69, Tryd.ntmps69
  go_wp2_with fail
  refine (calc_told.calls _ _ _ (told_f _)).mono ?_
  rintro e w' ⟨rfl, hb⟩
  go_wp2_with fail
  go_ret
  obtain ⟨m, rfl⟩ := hb
  first | exact ⟨rfl, pw_below_drewN (Below.refl _ _) m⟩ | exact ⟨by simp, pw_below_drewN (Below.refl _ _) m⟩
set_option maxRecDepth 100000 in
set_option maxHeartbeats 4000000 in
theorem ev12c (g1 g2 : Nat) (a b : Int) (W : World) (ha : inR a) (h1 : W.cell? ⟨g1, 0, none⟩ = some (.int .i64 a)) (h2 : W.cell? ⟨g2, 0, none⟩ = some (.int .i64 b)) :
    Calls Tryd.prog 70 #[.pointer (some ⟨g1, 0, none⟩), .pointer (some ⟨g2, 0, none⟩)] W fun e w' => e = .returned (.int .i64 (evalL 12 a b)) ∧ Below W.heap.size W w' := by
  rw [ev12_eq]
  clear ha
  go_enter Tryd.func70, Tryd.ntmps70
  go_wp2_with fail
  refine (calc_told.calls _ _ _ (told_f _)).mono ?_
  rintro e w' ⟨rfl, hb⟩
  go_wp2_with fail
  go_ret
  obtain ⟨m, rfl⟩ := hb
  first | exact ⟨rfl, pw_below_drewN (Below.refl _ _) m⟩ | exact ⟨by simp, pw_below_drewN (Below.refl _ _) m⟩
set_option maxRecDepth 100000 in
set_option maxHeartbeats 4000000 in
theorem ev13c (g1 g2 : Nat) (a b : Int) (W : World) (ha : inR a) (h1 : W.cell? ⟨g1, 0, none⟩ = some (.int .i64 a)) (h2 : W.cell? ⟨g2, 0, none⟩ = some (.int .i64 b)) :
    Calls Tryd.prog 71 #[.pointer (some ⟨g1, 0, none⟩), .pointer (some ⟨g2, 0, none⟩)] W fun e w' => e = .returned (.int .i64 (evalL 13 a b)) ∧ Below W.heap.size W w' := by
  rw [ev13_eq]
  clear ha
  go_enter Tryd.func71, Tryd.ntmps71
  go_wp2_with fail
  refine (calc_told.calls _ _ _ (told_f _)).mono ?_
  rintro e w' ⟨rfl, hb⟩
  go_wp2_with fail
  go_ret
  obtain ⟨m, rfl⟩ := hb
  first | exact ⟨rfl, pw_below_drewN (Below.refl _ _) m⟩ | exact ⟨by simp, pw_below_drewN (Below.refl _ _) m⟩
set_option maxRecDepth 100000 in
set_option maxHeartbeats 4000000 in
theorem ev14c (g1 g2 : Nat) (a b : Int) (W : World) (ha : inR a) (h1 : W.cell? ⟨g1, 0, none⟩ = some (.int .i64 a)) (h2 : W.cell? ⟨g2, 0, none⟩ = some (.int .i64 b)) :
    Calls Tryd.prog 72 #[.pointer (some ⟨g1, 0, none⟩), .pointer (some ⟨g2, 0, none⟩)] W fun e w' => e = .returned (.int .i64 (evalL 14 a b)) ∧ Below W.heap.size W w' := by
  rw [ev14_eq]
  clear ha
  go_enter Tryd.func72, Tryd.ntmps72
  go_wp2_with fail
  refine (calc_told.calls _ _ _ (told_f _)).mono ?_
  rintro e w' ⟨rfl, hb⟩
  go_wp2_with fail
  go_ret
  obtain ⟨m, rfl⟩ := hb
  first | exact ⟨rfl, pw_below_drewN (Below.refl _ _) m⟩ | exact ⟨by simp, pw_below_drewN (Below.refl _ _) m⟩
set_option maxRecDepth 100000 in
set_option maxHeartbeats 4000000 in
theorem ev15c (g1 g2 : Nat) (a b : Int) (W : World) (ha : inR a) (h1 : W.cell? ⟨g1, 0, none⟩ = some (.int .i64 a)) (h2 : W.cell? ⟨g2, 0, none⟩ = some (.int .i64 b)) :
    Calls Tryd.prog 73 #[.pointer (some ⟨g1, 0, none⟩), .pointer (some ⟨g2, 0, none⟩)] W fun e w' => e = .returned (.int .i64 (evalL 15 a b)) ∧ Below W.heap.size W w' := by
  rw [ev15_eq]
  clear ha
  go_enter Tryd.func73, Tryd.ntmps73
  go_wp2_with fail
  refine (calc_told.calls _ _ _ (told_f _)).mono ?_
  rintro e w' ⟨rfl, hb⟩
  go_wp2_with fail
  go_ret
  obtain ⟨m, rfl⟩ := hb
  first | exact ⟨rfl, pw_below_drewN (Below.refl _ _) m⟩ | exact ⟨by simp, pw_below_drewN (Below.refl _ _) m⟩
set_option maxRecDepth 100000 in
set_option maxHeartbeats 4000000 in
theorem ev16c (g1 g2 : Nat) (a b : Int) (W : World) (ha : inR a) (h1 : W.cell? ⟨g1, 0, none⟩ = some (.int .i64 a)) (h2 : W.cell? ⟨g2, 0, none⟩ = some (.int .i64 b)) :
    Calls Tryd.prog 74 #[.pointer (some ⟨g1, 0, none⟩), .pointer (some ⟨g2, 0, none⟩)] W fun e w' => e = .returned (.int .i64 (evalL 16 a b)) ∧ Below W.heap.size W w' := by
  rw [ev16_eq]
  clear ha
  go_enter Tryd.func74, Tryd.ntmps74
  go_wp2_with fail
  refine (calc_told.calls _ _ _ (told_f _)).mono ?_
  rintro e w' ⟨rfl, hb⟩
  go_wp2_with fail
  go_ret
  obtain ⟨m, rfl⟩ := hb
  first | exact ⟨rfl, pw_below_drewN (Below.refl _ _) m⟩ | exact ⟨by simp, pw_below_drewN (Below.refl _ _) m⟩
set_option maxRecDepth 100000 in
set_option maxHeartbeats 4000000 in
theorem ev17c (g1 g2 : Nat) (a b : Int) (W : World) (ha : inR a) (h1 : W.cell? ⟨g1, 0, none⟩ = some (.int .i64 a)) (h2 : W.cell? ⟨g2, 0, none⟩ = some (.int .i64 b)) :
    Calls Tryd.prog 75 #[.pointer (some ⟨g1, 0, none⟩), .pointer (some ⟨g2, 0, none⟩)] W fun e w' => e = .returned (.int .i64 (evalL 17 a b)) ∧ Below W.heap.size W w' := by
  rw [ev17_eq]
  clear ha
  cases hz : (a != 0)
  all_goals
    go_enter Tryd.func75, Tryd.ntmps75
    go_wp2_with fail
    refine (calc_told.calls _ _ _ (told_f _)).mono ?_
    rintro e w' ⟨rfl, hb⟩
    go_wp2_with fail
    go_ret
    obtain ⟨m, rfl⟩ := hb
    first | exact ⟨rfl, pw_below_drewN (Below.refl _ _) m⟩ | exact ⟨by simp, pw_below_drewN (Below.refl _ _) m⟩
set_option maxRecDepth 100000 in
set_option maxHeartbeats 4000000 in
theorem ev18c (g1 g2 : Nat) (a b : Int) (W : World) (ha : inR a) (h1 : W.cell? ⟨g1, 0, none⟩ = some (.int .i64 a)) (h2 : W.cell? ⟨g2, 0, none⟩ = some (.int .i64 b)) :
    Calls Tryd.prog 76 #[.pointer (some ⟨g1, 0, none⟩), .pointer (some ⟨g2, 0, none⟩)] W fun e w' => e = .returned (.int .i64 (evalL 18 a b)) ∧ Below W.heap.size W w' := by
  rw [ev18_eq]
  clear ha
  cases hz : (a != 0)
  all_goals
    go_enter Tryd.func76, Tryd.ntmps76
    go_wp2_with fail
    refine (calc_told.calls _ _ _ (told_f _)).mono ?_
    rintro e w' ⟨rfl, hb⟩
    go_wp2_with fail
    go_ret
    obtain ⟨m, rfl⟩ := hb
    first | exact ⟨rfl, pw_below_drewN (Below.refl _ _) m⟩ | exact ⟨by simp, pw_below_drewN (Below.refl _ _) m⟩
set_option maxRecDepth 100000
/-- the closures' table -/
def evF (g1 g2 : Nat) : Int → Option Value := upd (upd (upd (upd (upd (upd (upd (upd (upd (upd (upd (upd (upd (upd (upd (upd (upd (upd (upd (fun _ => none) 0 (.func (.func 56) #[] #[.pointer (some ⟨g1, 0, none⟩), .pointer (some ⟨g2, 0, none⟩)])) 1 (.func (.func 57) #[] #[.pointer (some ⟨g1, 0, none⟩), .pointer (some ⟨g2, 0, none⟩)])) 2 (.func (.func 58) #[] #[.pointer (some ⟨g1, 0, none⟩), .pointer (some ⟨g2, 0, none⟩)])) 3 (.func (.func 59) #[] #[.pointer (some ⟨g1, 0, none⟩), .pointer (some ⟨g2, 0, none⟩)])) 4 (.func (.func 61) #[] #[.pointer (some ⟨g1, 0, none⟩), .pointer (some ⟨g2, 0, none⟩)])) 5 (.func (.func 62) #[] #[.pointer (some ⟨g1, 0, none⟩), .pointer (some ⟨g2, 0, none⟩)])) 6 (.func (.func 63) #[] #[.pointer (some ⟨g1, 0, none⟩), .pointer (some ⟨g2, 0, none⟩)])) 7 (.func (.func 64) #[] #[.pointer (some ⟨g1, 0, none⟩), .pointer (some ⟨g2, 0, none⟩)])) 8 (.func (.func 65) #[] #[.pointer (some ⟨g1, 0, none⟩), .pointer (some ⟨g2, 0, none⟩)])) 9 (.func (.func 66) #[] #[.pointer (some ⟨g1, 0, none⟩), .pointer (some ⟨g2, 0, none⟩)])) 10 (.func (.func 67) #[] #[.pointer (some ⟨g1, 0, none⟩), .pointer (some ⟨g2, 0, none⟩)])) 11 (.func (.func 69) #[] #[.pointer (some ⟨g1, 0, none⟩), .pointer (some ⟨g2, 0, none⟩)])) 12 (.func (.func 70) #[] #[.pointer (some ⟨g1, 0, none⟩), .pointer (some ⟨g2, 0, none⟩)])) 13 (.func (.func 71) #[] #[.pointer (some ⟨g1, 0, none⟩), .pointer (some ⟨g2, 0, none⟩)])) 14 (.func (.func 72) #[] #[.pointer (some ⟨g1, 0, none⟩), .pointer (some ⟨g2, 0, none⟩)])) 15 (.func (.func 73) #[] #[.pointer (some ⟨g1, 0, none⟩), .pointer (some ⟨g2, 0, none⟩)])) 16 (.func (.func 74) #[] #[.pointer (some ⟨g1, 0, none⟩), .pointer (some ⟨g2, 0, none⟩)])) 17 (.func (.func 75) #[] #[.pointer (some ⟨g1, 0, none⟩), .pointer (some ⟨g2, 0, none⟩)])) 18 (.func (.func 76) #[] #[.pointer (some ⟨g1, 0, none⟩), .pointer (some ⟨g2, 0, none⟩)])
theorem evTab (g1 g2 : Nat) (o a b : Int) (ha : inR a) : (evF g1 g2 o = none ∧ evalL o a b = 0) ∨ ∃ N, evF g1 g2 o = some (.func (.func N) #[] #[.pointer (some ⟨g1, 0, none⟩), .pointer (some ⟨g2, 0, none⟩)]) ∧ (∀ args w, (callFunc N args).run Tryd.prog w = .ok (.enter N args) w) ∧
    ∀ W : World, W.cell? ⟨g1, 0, none⟩ = some (.int .i64 a) → W.cell? ⟨g2, 0, none⟩ = some (.int .i64 b) → Calls Tryd.prog N #[.pointer (some ⟨g1, 0, none⟩), .pointer (some ⟨g2, 0, none⟩)] W fun e w' => e = .returned (.int .i64 (evalL o a b)) ∧ Below W.heap.size W w' := by
  by_cases h : 0 ≤ o ∧ o ≤ 18
  · right
    have : o = 0 ∨ o = 1 ∨ o = 2 ∨ o = 3 ∨ o = 4 ∨ o = 5 ∨ o = 6 ∨ o = 7 ∨ o = 8 ∨ o = 9 ∨ o = 10 ∨ o = 11 ∨ o = 12 ∨ o = 13 ∨ o = 14 ∨ o = 15 ∨ o = 16 ∨ o = 17 ∨ o = 18 := by omega
    rcases this with rfl | rfl | rfl | rfl | rfl | rfl | rfl | rfl | rfl | rfl | rfl | rfl | rfl | rfl | rfl | rfl | rfl | rfl | rfl
    · exact ⟨56, rfl, fun _ _ => rfl, fun W h1 h2 => ev0c g1 g2 a b W ha h1 h2⟩
    · exact ⟨57, rfl, fun _ _ => rfl, fun W h1 h2 => ev1c g1 g2 a b W ha h1 h2⟩
    · exact ⟨58, rfl, fun _ _ => rfl, fun W h1 h2 => ev2c g1 g2 a b W ha h1 h2⟩
    · exact ⟨59, rfl, fun _ _ => rfl, fun W h1 h2 => ev3c g1 g2 a b W ha h1 h2⟩
    · exact ⟨61, rfl, fun _ _ => rfl, fun W h1 h2 => ev4c g1 g2 a b W ha h1 h2⟩
    · exact ⟨62, rfl, fun _ _ => rfl, fun W h1 h2 => ev5c g1 g2 a b W ha h1 h2⟩
    · exact ⟨63, rfl, fun _ _ => rfl, fun W h1 h2 => ev6c g1 g2 a b W ha h1 h2⟩
    · exact ⟨64, rfl, fun _ _ => rfl, fun W h1 h2 => ev7c g1 g2 a b W ha h1 h2⟩
    · exact ⟨65, rfl, fun _ _ => rfl, fun W h1 h2 => ev8c g1 g2 a b W ha h1 h2⟩
    · exact ⟨66, rfl, fun _ _ => rfl, fun W h1 h2 => ev9c g1 g2 a b W ha h1 h2⟩
    · exact ⟨67, rfl, fun _ _ => rfl, fun W h1 h2 => ev10c g1 g2 a b W ha h1 h2⟩
    · exact ⟨69, rfl, fun _ _ => rfl, fun W h1 h2 => ev11c g1 g2 a b W ha h1 h2⟩
    · exact ⟨70, rfl, fun _ _ => rfl, fun W h1 h2 => ev12c g1 g2 a b W ha h1 h2⟩
    · exact ⟨71, rfl, fun _ _ => rfl, fun W h1 h2 => ev13c g1 g2 a b W ha h1 h2⟩
    · exact ⟨72, rfl, fun _ _ => rfl, fun W h1 h2 => ev14c g1 g2 a b W ha h1 h2⟩
    · exact ⟨73, rfl, fun _ _ => rfl, fun W h1 h2 => ev15c g1 g2 a b W ha h1 h2⟩
    · exact ⟨74, rfl, fun _ _ => rfl, fun W h1 h2 => ev16c g1 g2 a b W ha h1 h2⟩
    · exact ⟨75, rfl, fun _ _ => rfl, fun W h1 h2 => ev17c g1 g2 a b W ha h1 h2⟩
    · exact ⟨76, rfl, fun _ _ => rfl, fun W h1 h2 => ev18c g1 g2 a b W ha h1 h2⟩
  · left
    refine ⟨?_, ev_none o a b h⟩
    unfold evF upd
    simp only []
    rw [if_neg (by omega)]
    rw [if_neg (by omega)]
    rw [if_neg (by omega)]
    rw [if_neg (by omega)]
    rw [if_neg (by omega)]
    rw [if_neg (by omega)]
    rw [if_neg (by omega)]
    rw [if_neg (by omega)]
    rw [if_neg (by omega)]
    rw [if_neg (by omega)]
    rw [if_neg (by omega)]
    rw [if_neg (by omega)]
    rw [if_neg (by omega)]
    rw [if_neg (by omega)]
    rw [if_neg (by omega)]
    rw [if_neg (by omega)]
    rw [if_neg (by omega)]
    rw [if_neg (by omega)]
    rw [if_neg (by omega)]

end Go.Proofs.YtfhjkkcdeigkdaaDoor.PFoldRuns
