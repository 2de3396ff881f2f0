-- Written by print2.py over the kit's printer. Not trusted: Lean checks it.
import Derived.Test.YtpbhfpbfmpocdaaDoorPSpillTellshqq
import Derived.Test.YtpbhfpbfmpocdaaDoorPSpillTellshmid
import Derived.Test.YtpbhfpbfmpocdaaDoorPSpillTellsx0
import Derived.Test.YtpbhfpbfmpocdaaDoorPSpillTellsx6
import Derived.Test.YtpbhfpbfmpocdaaDoorPSpillTellsx15
import Derived.Test.YtpbhfpbfmpocdaaDoorPSpillTellsx16
namespace Go.Proofs.YtpbhfpbfmpocdaaDoor.PSpillTells
open Go.RowKit Go.Proofs.YtpbhfpbfmpocdaaDoorW.PrintWords Go.Proofs.YtpbhfpbfmpocdaaDoorW.PrintLast Go.Proofs.YtpbhfpbfmpocdaaDoorW.PrintMore
attribute [local go_sem] max2_int min2_int max_two min_two max_three min_three max_four min_four   -- for this text's walks alone
set_option linter.unusedVariables false
set_option linter.unusedSimpArgs false

/-! ### palingref22_one: function 28 -/
mutual
def palingref22_one.j0 : Nat → List (S48) → Bool → Int → Int → Int → Int → Int → Int → Int → List (S57) → List Int → Int → Int → Int → Int → Int → Int → Int → Int → Int → Option ((List (S48)))
  | 0, _, _, _, _, _, _, _, _, _, _, _, _, _, _, _, _, _, _, _, _ => none
  | k + 1, x5, x28, x504000, x504001, x504002, x504003, x504004, x504005, x504006, x505000, x505001, x505002, x505003, x509000, x509001, x509002, x509003, x509004, x509005, x509006 => if x28 = true then ((palingref22_word.f k x505000 x505001 x505002 x505003 x504003).bind fun t510 => (if t510 ≥ 0 then (if x5.length < 2513169434916 then (palingref22_one.j1 k (x5 ++ [(⟨4, 0, 13, (-1), 0, t510, 0⟩ : S48)]) x504000 x504001 x504002 x504003 x504004 x504005 x504006 x505000 x505001 x505002 x505003 x509000 x509001 x509002 13 x509004 x509005 x509006) else (none)) else ((palingref22_find.f k x505000 x504003).bind fun t514 => (if 0 ≤ t514 then (if t514 < (x505000.length : Int) then (palingref22_one.j1 k x5 x504000 x504001 x504002 x504003 x504004 x504005 x504006 x505000 x505001 x505002 x505003 x509000 x509001 x509002 ((rd_T57 x505000 t514).f1) x509004 x509005 x509006) else (none)) else (none))))) else (palingref22_one.j1 k x5 x504000 x504001 x504002 x504003 x504004 x504005 x504006 x505000 x505001 x505002 x505003 x509000 x509001 x509002 x509003 x509004 x509005 x509006)
def palingref22_one.j1 : Nat → List (S48) → Int → Int → Int → Int → Int → Int → Int → List (S57) → List Int → Int → Int → Int → Int → Int → Int → Int → Int → Int → Option ((List (S48)))
  | 0, _, _, _, _, _, _, _, _, _, _, _, _, _, _, _, _, _, _, _ => none
  | k + 1, x5, x504000, x504001, x504002, x504003, x504004, x504005, x504006, x505000, x505001, x505002, x505003, x509000, x509001, x509002, x509003, x509004, x509005, x509006 => if x504000 = 2 then (palingref22_one.j2 k x5 true x504000 x504001 x504002 x504003 x504004 x504005 x504006 x505000 x505001 x505002 x505003 x509000 x509001 x509002 x509003 x509004 x509005 x509006) else (if x504000 = 3 then (palingref22_one.j2 k x5 true x504000 x504001 x504002 x504003 x504004 x504005 x504006 x505000 x505001 x505002 x505003 x509000 x509001 x509002 x509003 x509004 x509005 x509006) else (palingref22_one.j2 k x5 (x504000 == 5) x504000 x504001 x504002 x504003 x504004 x504005 x504006 x505000 x505001 x505002 x505003 x509000 x509001 x509002 x509003 x509004 x509005 x509006))
def palingref22_one.j2 : Nat → List (S48) → Bool → Int → Int → Int → Int → Int → Int → Int → List (S57) → List Int → Int → Int → Int → Int → Int → Int → Int → Int → Int → Option ((List (S48)))
  | 0, _, _, _, _, _, _, _, _, _, _, _, _, _, _, _, _, _, _, _, _ => none
  | k + 1, x5, x64, x504000, x504001, x504002, x504003, x504004, x504005, x504006, x505000, x505001, x505002, x505003, x509000, x509001, x509002, x509003, x509004, x509005, x509006 => if x64 = true then ((palingref22_word.f k x505000 x505001 x505002 x505003 x504004).bind fun t516 => (if t516 ≥ 0 then (if x5.length < 2513169434916 then (palingref22_one.j3 k (x5 ++ [(⟨4, 0, 14, (-1), 0, t516, 0⟩ : S48)]) x504000 x504001 x504002 x504003 x504004 x504005 x504006 x505000 x505001 x505002 x505003 x509000 x509001 x509002 x509003 14 x509005 x509006) else (none)) else ((palingref22_find.f k x505000 x504004).bind fun t520 => (if 0 ≤ t520 then (if t520 < (x505000.length : Int) then (palingref22_one.j3 k x5 x504000 x504001 x504002 x504003 x504004 x504005 x504006 x505000 x505001 x505002 x505003 x509000 x509001 x509002 x509003 ((rd_T57 x505000 t520).f1) x509005 x509006) else (none)) else (none))))) else (palingref22_one.j3 k x5 x504000 x504001 x504002 x504003 x504004 x504005 x504006 x505000 x505001 x505002 x505003 x509000 x509001 x509002 x509003 x509004 x509005 x509006)
def palingref22_one.j3 : Nat → List (S48) → Int → Int → Int → Int → Int → Int → Int → List (S57) → List Int → Int → Int → Int → Int → Int → Int → Int → Int → Int → Option ((List (S48)))
  | 0, _, _, _, _, _, _, _, _, _, _, _, _, _, _, _, _, _, _, _ => none
  | k + 1, x5, x504000, x504001, x504002, x504003, x504004, x504005, x504006, x505000, x505001, x505002, x505003, x509000, x509001, x509002, x509003, x509004, x509005, x509006 => (palingref11_Def.f k x504000 x504001 x504002 x504003 x504004 x504005 x504006).bind fun t522 => (if t522 < 0 then (if x5.length < 2513169434916 then (some (x5 ++ [(⟨x509000, x509001, x509002, x509003, x509004, x509005, x509006⟩ : S48)])) else (none)) else ((palingref22_word.f k x505000 x505001 x505002 x505003 t522).bind fun t526 => (if t526 < 0 then ((palingref22_find.f k x505000 t522).bind fun t527 => (if 0 ≤ t527 then (if t527 < (x505000.length : Int) then (if x5.length < 2513169434916 then (some (x5 ++ [(⟨x509000, x509001, (rd_T57 x505000 t527).f1, x509003, x509004, x509005, x509006⟩ : S48)])) else (none)) else (none)) else (none))) else (if x504000 = 3 then (if x5.length < 2513169434916 then ((some (x5 ++ [(⟨4, 0, 15, (-1), 0, t526, 0⟩ : S48)] : List (S48))).bind fun y532 => (if y532.length < 2513169434916 then ((some (y532 ++ [(⟨x509000, x509001, 15, x509003, x509004, x509005, x509006⟩ : S48)] : List (S48))).bind fun y535 => (if y535.length < 2513169434916 then (some (y535 ++ [(⟨5, 0, 0, (-1), 15, t526, 0⟩ : S48)])) else (none))) else (none))) else (none)) else (if x5.length < 2513169434916 then ((some (x5 ++ [(⟨x509000, x509001, 15, x509003, x509004, x509005, x509006⟩ : S48)] : List (S48))).bind fun y541 => (if y541.length < 2513169434916 then (some (y541 ++ [(⟨5, 0, 0, (-1), 15, t526, 0⟩ : S48)])) else (none))) else (none))))))
end
def palingref22_one.f (k : Nat) (a0_0 : Int) (a0_1 : Int) (a0_2 : Int) (a0_3 : Int) (a0_4 : Int) (a0_5 : Int) (a0_6 : Int) (l1_0 : List (S57)) (l1_1 : List Int) (a1_2 : Int) (a1_3 : Int) : Option ((List (S48))) := (palingref11_Uses.f k a0_0 a0_1 a0_2 a0_3 a0_4 a0_5 a0_6).bind fun t505 => (if a0_0 = 0 then (palingref22_one.j0 k ([] : List (S48)) false a0_0 a0_1 a0_2 a0_3 a0_4 a0_5 a0_6 l1_0 l1_1 a1_2 a1_3 a0_0 a0_1 a0_2 a0_3 a0_4 a0_5 a0_6) else (if a0_3 ≥ 0 then ((palingref22_has.f k t505 a0_3).bind fun t509 => (palingref22_one.j0 k ([] : List (S48)) t509 a0_0 a0_1 a0_2 a0_3 a0_4 a0_5 a0_6 l1_0 l1_1 a1_2 a1_3 a0_0 a0_1 a0_2 a0_3 a0_4 a0_5 a0_6)) else (palingref22_one.j0 k ([] : List (S48)) false a0_0 a0_1 a0_2 a0_3 a0_4 a0_5 a0_6 l1_0 l1_1 a1_2 a1_3 a0_0 a0_1 a0_2 a0_3 a0_4 a0_5 a0_6)))
theorem palingref22_one.mono_l : ∀ k, (∀ y0 y1 y2 y3 y4 y5 y6 y7 y8 y9 y10 y11 y12 y13 y14 y15 y16 y17 y18 y19, LeO (palingref22_one.j0 k y0 y1 y2 y3 y4 y5 y6 y7 y8 y9 y10 y11 y12 y13 y14 y15 y16 y17 y18 y19) (palingref22_one.j0 (k + 1) y0 y1 y2 y3 y4 y5 y6 y7 y8 y9 y10 y11 y12 y13 y14 y15 y16 y17 y18 y19)) ∧ (∀ y0 y1 y2 y3 y4 y5 y6 y7 y8 y9 y10 y11 y12 y13 y14 y15 y16 y17 y18, LeO (palingref22_one.j1 k y0 y1 y2 y3 y4 y5 y6 y7 y8 y9 y10 y11 y12 y13 y14 y15 y16 y17 y18) (palingref22_one.j1 (k + 1) y0 y1 y2 y3 y4 y5 y6 y7 y8 y9 y10 y11 y12 y13 y14 y15 y16 y17 y18)) ∧ (∀ y0 y1 y2 y3 y4 y5 y6 y7 y8 y9 y10 y11 y12 y13 y14 y15 y16 y17 y18 y19, LeO (palingref22_one.j2 k y0 y1 y2 y3 y4 y5 y6 y7 y8 y9 y10 y11 y12 y13 y14 y15 y16 y17 y18 y19) (palingref22_one.j2 (k + 1) y0 y1 y2 y3 y4 y5 y6 y7 y8 y9 y10 y11 y12 y13 y14 y15 y16 y17 y18 y19)) ∧ (∀ y0 y1 y2 y3 y4 y5 y6 y7 y8 y9 y10 y11 y12 y13 y14 y15 y16 y17 y18, LeO (palingref22_one.j3 k y0 y1 y2 y3 y4 y5 y6 y7 y8 y9 y10 y11 y12 y13 y14 y15 y16 y17 y18) (palingref22_one.j3 (k + 1) y0 y1 y2 y3 y4 y5 y6 y7 y8 y9 y10 y11 y12 y13 y14 y15 y16 y17 y18))
  | 0 => ⟨fun _ _ _ _ _ _ _ _ _ _ _ _ _ _ _ _ _ _ _ _ r h => by simp [palingref22_one.j0] at h, fun _ _ _ _ _ _ _ _ _ _ _ _ _ _ _ _ _ _ _ r h => by simp [palingref22_one.j1] at h, fun _ _ _ _ _ _ _ _ _ _ _ _ _ _ _ _ _ _ _ _ r h => by simp [palingref22_one.j2] at h, fun _ _ _ _ _ _ _ _ _ _ _ _ _ _ _ _ _ _ _ r h => by simp [palingref22_one.j3] at h⟩
  | k + 1 => by
    obtain ⟨ih0, ih1, ih2, ih3⟩ := palingref22_one.mono_l k
    refine ⟨?_, ?_, ?_, ?_⟩ <;> intros <;> (first | unfold palingref22_one.j0 | unfold palingref22_one.j1 | unfold palingref22_one.j2 | unfold palingref22_one.j3) <;> repeat' (first | (with_reducible first | exact ih0 _ _ _ _ _ _ _ _ _ _ _ _ _ _ _ _ _ _ _ _ | exact ih1 _ _ _ _ _ _ _ _ _ _ _ _ _ _ _ _ _ _ _ | exact ih2 _ _ _ _ _ _ _ _ _ _ _ _ _ _ _ _ _ _ _ _ | exact ih3 _ _ _ _ _ _ _ _ _ _ _ _ _ _ _ _ _ _ _ | exact palingref11_Def.mono _ _ _ _ _ _ _ _ | exact palingref11_Uses.mono _ _ _ _ _ _ _ _ | exact palingref22_find.mono _ _ _ | exact palingref22_has.mono _ _ _ | exact palingref22_word.mono _ _ _ _ _ _ | exact LeO.refl _ | exact LeO.none _ | refine LeO.ite ?_ ?_ | refine LeO.bind ?_ (fun _ => ?_)) | exact ih0 _ _ _ _ _ _ _ _ _ _ _ _ _ _ _ _ _ _ _ _ | exact ih1 _ _ _ _ _ _ _ _ _ _ _ _ _ _ _ _ _ _ _ | exact ih2 _ _ _ _ _ _ _ _ _ _ _ _ _ _ _ _ _ _ _ _ | exact ih3 _ _ _ _ _ _ _ _ _ _ _ _ _ _ _ _ _ _ _ | exact palingref11_Def.mono _ _ _ _ _ _ _ _ | exact palingref11_Uses.mono _ _ _ _ _ _ _ _ | exact palingref22_find.mono _ _ _ | exact palingref22_has.mono _ _ _ | exact palingref22_word.mono _ _ _ _ _ _ | exact LeO.none _ | refine LeO.ite ?_ ?_ | refine LeO.bind ?_ (fun _ => ?_))
theorem palingref22_one.mono : ∀ a0 a1 a2 a3 a4 a5 a6 a7 a8 a9 a10 k, LeO (palingref22_one.f k a0 a1 a2 a3 a4 a5 a6 a7 a8 a9 a10) (palingref22_one.f (k + 1) a0 a1 a2 a3 a4 a5 a6 a7 a8 a9 a10) := by
 intro a0 a1 a2 a3 a4 a5 a6 a7 a8 a9 a10 k
 obtain ⟨ih0, ih1, ih2, ih3⟩ := palingref22_one.mono_l k
 unfold palingref22_one.f
 repeat' (first | (with_reducible first | exact ih0 _ _ _ _ _ _ _ _ _ _ _ _ _ _ _ _ _ _ _ _ | exact ih1 _ _ _ _ _ _ _ _ _ _ _ _ _ _ _ _ _ _ _ | exact ih2 _ _ _ _ _ _ _ _ _ _ _ _ _ _ _ _ _ _ _ _ | exact ih3 _ _ _ _ _ _ _ _ _ _ _ _ _ _ _ _ _ _ _ | exact palingref11_Def.mono _ _ _ _ _ _ _ _ | exact palingref11_Uses.mono _ _ _ _ _ _ _ _ | exact palingref22_find.mono _ _ _ | exact palingref22_has.mono _ _ _ | exact palingref22_word.mono _ _ _ _ _ _ | exact LeO.refl _ | exact LeO.none _ | refine LeO.ite ?_ ?_ | refine LeO.bind ?_ (fun _ => ?_)) | exact ih0 _ _ _ _ _ _ _ _ _ _ _ _ _ _ _ _ _ _ _ _ | exact ih1 _ _ _ _ _ _ _ _ _ _ _ _ _ _ _ _ _ _ _ | exact ih2 _ _ _ _ _ _ _ _ _ _ _ _ _ _ _ _ _ _ _ _ | exact ih3 _ _ _ _ _ _ _ _ _ _ _ _ _ _ _ _ _ _ _ | exact palingref11_Def.mono _ _ _ _ _ _ _ _ | exact palingref11_Uses.mono _ _ _ _ _ _ _ _ | exact palingref22_find.mono _ _ _ | exact palingref22_has.mono _ _ _ | exact palingref22_word.mono _ _ _ _ _ _ | exact LeO.none _ | refine LeO.ite ?_ ?_ | refine LeO.bind ?_ (fun _ => ?_))
def palingref22_one.T9 : Bool × List (List Nat × List Nat) := (true, [([], []), ([0], [0]), ([], []), ([2], [2]), ([], []), ([4], [4]), ([3, 5], [3, 5]), ([1, 6], [1, 6]), ([7], [7]), ([8], [8]), ([0, 1, 2, 3, 4, 5, 6, 7, 8, 9], []), ([10, 9, 6, 0, 1, 2, 3, 4, 5, 6, 7, 8, 9], [9, 10])])
def palingref22_one.B9 : List Nat := [0, 1, 0, 4, 0, 16, 60, 127, 255, 511, 1023, 2047]
theorem palingref22_one.tab9 : rtab .any (opsOf Tryd.f28 9) = palingref22_one.T9 := by kernel_rfl
theorem palingref22_one.bits9 : waitsOk palingref22_one.T9.2 palingref22_one.B9 = true := by kernel_rfl
def palingref22_one.T15 : Bool × List (List Nat × List Nat) := (true, [([], []), ([0], [0]), ([], []), ([2], [2]), ([], []), ([4], [4]), ([3, 5], [3, 5]), ([1, 6], [1, 6]), ([7], [7]), ([8], [8]), ([0, 1, 2, 3, 4, 5, 6, 7, 8, 9], []), ([10, 9, 6, 0, 1, 2, 3, 4, 5, 6, 7, 8, 9], [9, 10])])
def palingref22_one.B15 : List Nat := [0, 1, 0, 4, 0, 16, 60, 127, 255, 511, 1023, 2047]
theorem palingref22_one.tab15 : rtab .any (opsOf Tryd.f28 15) = palingref22_one.T15 := by kernel_rfl
theorem palingref22_one.bits15 : waitsOk palingref22_one.T15.2 palingref22_one.B15 = true := by kernel_rfl
def palingref22_one.T21 : Bool × List (List Nat × List Nat) := (true, [([], []), ([0], [0]), ([], []), ([2], [2]), ([], []), ([3, 4], [3, 4]), ([1, 5], [1, 5]), ([6], [6]), ([7], [7]), ([0, 1, 2, 3, 4, 5, 6, 7, 8], []), ([9, 8, 5, 0, 1, 2, 3, 4, 5, 6, 7, 8], [8, 9])])
def palingref22_one.B21 : List Nat := [0, 1, 0, 4, 0, 28, 63, 127, 255, 511, 1023]
theorem palingref22_one.tab21 : rtab .any (opsOf Tryd.f28 21) = palingref22_one.T21 := by kernel_rfl
theorem palingref22_one.bits21 : waitsOk palingref22_one.T21.2 palingref22_one.B21 = true := by kernel_rfl
set_option maxHeartbeats 8000000 in
set_option maxRecDepth 100000 in
theorem palingref22_one.calls (k : Nat) (a0_0 : Int) (a0_1 : Int) (a0_2 : Int) (a0_3 : Int) (a0_4 : Int) (a0_5 : Int) (a0_6 : Int) (A1_0 : Option Addr) (c1_0 : Nat) (l1_0 : List (S57)) (A1_1 : Option Addr) (c1_1 : Nat) (l1_1 : List Int) (a1_2 : Int) (a1_3 : Int) (r : List (S48)) (w : World) (hr1_0 : Kd.C k57 w A1_0 l1_0.length l1_0) (hc1_0 : l1_0.length ≤ c1_0) (hr1_1 : Kd.C (Kd.int .i64) w A1_1 l1_1.length l1_1) (hc1_1 : l1_1.length ≤ c1_1) (h : palingref22_one.f k a0_0 a0_1 a0_2 a0_3 a0_4 a0_5 a0_6 l1_0 l1_1 a1_2 a1_3 = some r) :
    Calls Tryd.prog 28 #[.agg #[.int .i64 a0_0, .int .i64 a0_1, .int .i64 a0_2, .int .i64 a0_3, .int .i64 a0_4, .int .i64 a0_5, .int .i64 a0_6], .agg #[.slice A1_0 l1_0.length c1_0, .slice A1_1 l1_1.length c1_1, .int .i64 a1_2, .int .i64 a1_3]] w fun e w' => ∃ v0_ : Value, e = .returned (v0_) ∧ Kd.R k48 48 w' w.heap.size (fun _ => True) v0_ r ∧ Below w.heap.size w w' := by
 have hu48 := Tryd.underlying48
 have hu42 := Tryd.underlying42
 have HR1_0 := Aside0.mk hr1_0
 have HC1_0 := Aside0.mk hc1_0
 clear hr1_0 hc1_0
 have HR1_1 := Aside0.mk hr1_1
 have HC1_1 := Aside0.mk hc1_1
 clear hr1_1 hc1_1
 have HB := Aside0.mk (Below.refl w.heap.size w)
 have H : ((palingref11_Uses.f k a0_0 a0_1 a0_2 a0_3 a0_4 a0_5 a0_6).bind fun t505 => (if a0_0 = 0 then (palingref22_one.j0 k ([] : List (S48)) false a0_0 a0_1 a0_2 a0_3 a0_4 a0_5 a0_6 l1_0 l1_1 a1_2 a1_3 a0_0 a0_1 a0_2 a0_3 a0_4 a0_5 a0_6) else (if a0_3 ≥ 0 then ((palingref22_has.f k t505 a0_3).bind fun t509 => (palingref22_one.j0 k ([] : List (S48)) t509 a0_0 a0_1 a0_2 a0_3 a0_4 a0_5 a0_6 l1_0 l1_1 a1_2 a1_3 a0_0 a0_1 a0_2 a0_3 a0_4 a0_5 a0_6)) else (palingref22_one.j0 k ([] : List (S48)) false a0_0 a0_1 a0_2 a0_3 a0_4 a0_5 a0_6 l1_0 l1_1 a1_2 a1_3 a0_0 a0_1 a0_2 a0_3 a0_4 a0_5 a0_6)))) = some r := h
 clear h
 obtain ⟨t505, A3, H⟩ := bS_ H
 have HC4 := Aside0.mk H
 clear H
 go_enter Tryd.func28, Tryd.ntmps28
 go_upto_region 4 with (first | ((with_reducible refine gate_dst (N := 2) rfl ?_); refine box_event ?hg (N := 2) ?hd (cs := #[.int .i64 a0_0, .int .i64 a0_1, .int .i64 a0_2, .int .i64 a0_3, .int .i64 a0_4, .int .i64 a0_5, .int .i64 a0_6]) (t := 48) ?hr ?_; (case hd => rfl); (case hg => rfl); (case hr => first | (go_simp; done) | (go_simp; rfl)); intro gb0 hg w5 hbox hb; have BK0 := Aside0.mk (hbox); have GW0 := Aside0.mk ((by rw [hg]; exact (below_size aq0) : w.heap.size ≤ gb0)); have GE0 := Aside0.mk ((by rw [hg]; exact (below_size aq0) : w.heap.size ≤ gb0)); replace HB := Aside0.mk (below_step aq0 hb); clear hb hbox hg) | ((with_reducible refine gate_dst (N := 3) rfl ?_); refine box_event ?hg (N := 3) ?hd (cs := #[.slice A1_0 l1_0.length c1_0, .slice A1_1 l1_1.length c1_1, .int .i64 a1_2, .int .i64 a1_3]) (t := 42) ?hr ?_; (case hd => rfl); (case hg => rfl); (case hr => first | (go_simp; done) | (go_simp; rfl)); intro gb1 hg w6 hbox hb; have n0_ := Aside0.mk (blk_below (g := gb0) (o := .cells #[.int .i64 a0_0, .int .i64 a0_1, .int .i64 a0_2, .int .i64 a0_3, .int .i64 a0_4, .int .i64 a0_5, .int .i64 a0_6] 48 (0, 0)) aq5 hb); have n1_ := Aside0.mk (below_step aq3 hb); have n2_ := Aside0.mk (hbox); have n3_ := Aside0.mk ((by rw [hg]; exact (below_size aq3) : w.heap.size ≤ gb1)); have n4_ := Aside0.mk ((by rw [hg]; exact (below_size aq3) : w.heap.size ≤ gb1)); have n5_ := Aside0.mk ((by rw [hg]; exact Nat.ne_of_lt (blk_lt (g := gb0) (o := .cells #[.int .i64 a0_0, .int .i64 a0_1, .int .i64 a0_2, .int .i64 a0_3, .int .i64 a0_4, .int .i64 a0_5, .int .i64 a0_6] 48 (0, 0)) aq5) : gb0 ≠ gb1)); have n6_ := Aside0.mk ((by rw [hg]; exact Nat.ne_of_gt (blk_lt (g := gb0) (o := .cells #[.int .i64 a0_0, .int .i64 a0_1, .int .i64 a0_2, .int .i64 a0_3, .int .i64 a0_4, .int .i64 a0_5, .int .i64 a0_6] 48 (0, 0)) aq5) : gb1 ≠ gb0)); clear BK0; clear HB; have BK0 := n0_; have HB := n1_; have BK1 := n2_; have GW1 := n3_; have GE1 := n4_; have NB0_1 := n5_; have NB1_0 := n6_; clear n0_ n1_ n2_ n3_ n4_ n5_ n6_; clear hb hbox hg; have hnb7 := NB0_1.out; have hnc7 := NB1_0.out; obtain ⟨hcz8_0, hcz8_1, hcz8_2, hcz8_3, hcz8_4, hcz8_5, hcz8_6, hfz8_0, hfz8_1, hfz8_2, hfz8_3, hfz8_4, hfz8_5, hfz8_6⟩ := czf7 BK0.out) | ((with_reducible refine gate_callee (f := 45) rfl ?_); refine goesL_ (some 13) rfl rfl Tryd.func45 (by kernel_rfl) rfl #[.agg #[.int .i64 a0_0, .int .i64 a0_1, .int .i64 a0_2, .int .i64 a0_3, .int .i64 a0_4, .int .i64 a0_5, .int .i64 a0_6]] rfl aq4 ?_; (with_reducible refine (palingref11_Uses.calls k a0_0 a0_1 a0_2 a0_3 a0_4 a0_5 a0_6 t505 _ A3.out).mono ?_); rintro e w9 ⟨v506, rfl, ho0, hb⟩; refine ⟨_, rfl, ?_⟩; have HO507 := Aside0.mk (Kd.R_lower ho0 (below_size aq41)); replace BK0 := Aside0.mk (blk_below (g := gb0) (o := .cells #[.int .i64 a0_0, .int .i64 a0_1, .int .i64 a0_2, .int .i64 a0_3, .int .i64 a0_4, .int .i64 a0_5, .int .i64 a0_6] 48 (0, 0)) aq5 hb); replace BK1 := Aside0.mk (blk_below (g := gb1) (o := .cells #[.slice A1_0 l1_0.length c1_0, .slice A1_1 l1_1.length c1_1, .int .i64 a1_2, .int .i64 a1_3] 42 (0, 0)) aq16 hb); replace HB := Aside0.mk (below_step aq41 hb); (try clear hb); (try clear hb2); (try clear hk); (try clear hi); (try clear ho0); obtain ⟨hcz10_0, hcz10_1, hcz10_2, hcz10_3, hcz10_4, hcz10_5, hcz10_6, hfz10_0, hfz10_1, hfz10_2, hfz10_3, hfz10_4, hfz10_5, hfz10_6⟩ := czf7 BK0.out) | ((with_reducible refine gate_dst (N := 7) rfl ?_); refine box_event ?hg (N := 7) ?hd (cs := #[.int .i64 0, .int .i64 0, .int .i64 0, .int .i64 0, .int .i64 0, .int .i64 0, .int .i64 0]) (t := 48) ?hr ?_; (case hd => rfl); (case hg => rfl); (case hr => first | (go_simp; done) | (go_simp; rfl)); intro gb2 hg w11 hbox hb; have n0_ := Aside0.mk (Kd.R_below (by (with_reducible repeat (first | apply Kd.R_alloc | apply Kd.R_drewN | apply Kd.R_drew)); exact HO507.out) hb); have n1_ := Aside0.mk (blk_below (g := gb0) (o := .cells #[.int .i64 a0_0, .int .i64 a0_1, .int .i64 a0_2, .int .i64 a0_3, .int .i64 a0_4, .int .i64 a0_5, .int .i64 a0_6] 48 (0, 0)) aq5 hb); have n2_ := Aside0.mk (blk_below (g := gb1) (o := .cells #[.slice A1_0 l1_0.length c1_0, .slice A1_1 l1_1.length c1_1, .int .i64 a1_2, .int .i64 a1_3] 42 (0, 0)) aq16 hb); have n3_ := Aside0.mk (below_step aq41 hb); have n4_ := Aside0.mk (hbox); have n5_ := Aside0.mk ((by rw [hg]; exact (below_size aq41) : w.heap.size ≤ gb2)); have n6_ := Aside0.mk ((by rw [hg]; exact (below_size aq41) : w.heap.size ≤ gb2)); have n7_ := Aside0.mk ((by rw [hg]; exact Nat.ne_of_lt (blk_lt (g := gb0) (o := .cells #[.int .i64 a0_0, .int .i64 a0_1, .int .i64 a0_2, .int .i64 a0_3, .int .i64 a0_4, .int .i64 a0_5, .int .i64 a0_6] 48 (0, 0)) aq5) : gb0 ≠ gb2)); have n8_ := Aside0.mk ((by rw [hg]; exact Nat.ne_of_gt (blk_lt (g := gb0) (o := .cells #[.int .i64 a0_0, .int .i64 a0_1, .int .i64 a0_2, .int .i64 a0_3, .int .i64 a0_4, .int .i64 a0_5, .int .i64 a0_6] 48 (0, 0)) aq5) : gb2 ≠ gb0)); have n9_ := Aside0.mk ((by rw [hg]; exact Nat.ne_of_lt (blk_lt (g := gb1) (o := .cells #[.slice A1_0 l1_0.length c1_0, .slice A1_1 l1_1.length c1_1, .int .i64 a1_2, .int .i64 a1_3] 42 (0, 0)) aq16) : gb1 ≠ gb2)); have n10_ := Aside0.mk ((by rw [hg]; exact Nat.ne_of_gt (blk_lt (g := gb1) (o := .cells #[.slice A1_0 l1_0.length c1_0, .slice A1_1 l1_1.length c1_1, .int .i64 a1_2, .int .i64 a1_3] 42 (0, 0)) aq16) : gb2 ≠ gb1)); clear HO507; clear BK0; clear BK1; clear HB; have HO507 := n0_; have BK0 := n1_; have BK1 := n2_; have HB := n3_; have BK2 := n4_; have GW2 := n5_; have GE2 := n6_; have NB0_2 := n7_; have NB2_0 := n8_; have NB1_2 := n9_; have NB2_1 := n10_; clear n0_ n1_ n2_ n3_ n4_ n5_ n6_ n7_ n8_ n9_ n10_; clear hb hbox hg; have hnb12 := NB2_0.out; have hnc12 := NB0_2.out; have hnb13 := NB2_1.out; have hnc13 := NB1_2.out; obtain ⟨hcz14_0, hcz14_1, hcz14_2, hcz14_3, hcz14_4, hcz14_5, hcz14_6, hfz14_0, hfz14_1, hfz14_2, hfz14_3, hfz14_4, hfz14_5, hfz14_6⟩ := czf7 BK2.out))
 (try simp only [Act.put, List.setIfInBounds_toArray, List.set_cons_zero, List.set_cons_succ])
 go_cut [28] (fun v28 wc => ∃ (kq : Nat) (x28_3 : Bool), v28 = .bool x28_3 ∧ Aside0 (palingref22_one.j0 kq ([] : List (S48)) x28_3 a0_0 a0_1 a0_2 a0_3 a0_4 a0_5 a0_6 l1_0 l1_1 a1_2 a1_3 a0_0 a0_1 a0_2 a0_3 a0_4 a0_5 a0_6 = some r) ∧ Aside0 (kq ≤ k) ∧ Aside0 (Kd.R k48 48 wc w.heap.size (fun k_ => k_ ≠ gb0 ∧ k_ ≠ gb2) (.slice none 0 0) ([] : List (S48))) ∧ Aside0 (wc.heap[gb0]? = some (.cells #[.int .i64 a0_0, .int .i64 a0_1, .int .i64 a0_2, .int .i64 a0_3, .int .i64 a0_4, .int .i64 a0_5, .int .i64 a0_6] 48 (0, 0))) ∧ Aside0 (wc.heap[gb1]? = some (.cells #[(.slice A1_0 l1_0.length c1_0), (.slice A1_1 l1_1.length c1_1), .int .i64 a1_2, .int .i64 a1_3] 42 (0, 0))) ∧ Aside0 (wc.heap[gb2]? = some (.cells #[.int .i64 a0_0, .int .i64 a0_1, .int .i64 a0_2, .int .i64 a0_3, .int .i64 a0_4, .int .i64 a0_5, .int .i64 a0_6] 48 (0, 0))) ∧ Aside0 (Below w.heap.size w wc))
 case first =>
  have H := HC4.out
  clear HC4
  by_cases c15 : a0_0 = 0
  ·rw [if_pos c15] at H
   have c15b0 : (a0_0 == 0) = true := beq_iff_eq.mpr c15
   have c15b1 : (a0_0 != 0) = false := bne_eq_false_iff_eq.mpr c15
   clear c15
   (first | rw [c15b0] | (simp only [i64_w, i32_w]; rw [c15b0]) | skip)
   have H' := Aside0.mk H
   clear H
   have hnb16 := NB0_1.out
   have hnc16 := NB1_0.out
   have hnb17 := NB0_2.out
   have hnc17 := NB2_0.out
   obtain ⟨hcz18_0, hcz18_1, hcz18_2, hcz18_3, hcz18_4, hcz18_5, hcz18_6, hfz18_0, hfz18_1, hfz18_2, hfz18_3, hfz18_4, hfz18_5, hfz18_6⟩ := czf7 BK0.out
   go_wp2
   go_meet
   case rel => exact ⟨_, (false), aq7, H', ⟨aq50⟩, ⟨aq23⟩, ⟨aq17⟩, ⟨aq18⟩, ⟨aq11⟩, ⟨aq9⟩⟩
  rw [if_neg c15] at H
  have c15b0 : (a0_0 == 0) = false := beq_eq_false_iff_ne.mpr c15
  have c15b1 : (a0_0 != 0) = true := bne_iff_ne.mpr c15
  (first | rw [c15b0] | (simp only [i64_w, i32_w]; rw [c15b0]) | skip)
  by_cases c19 : a0_3 ≥ 0
  rotate_left
  ·rw [if_neg c19] at H
   have c19b0 : decide (0 ≤ a0_3) = false := decide_eq_false c19
   clear c19
   have H' := Aside0.mk H
   clear H
   have hnb25 := NB0_1.out
   have hnc25 := NB1_0.out
   have hnb26 := NB0_2.out
   have hnc26 := NB2_0.out
   obtain ⟨hcz27_0, hcz27_1, hcz27_2, hcz27_3, hcz27_4, hcz27_5, hcz27_6, hfz27_0, hfz27_1, hfz27_2, hfz27_3, hfz27_4, hfz27_5, hfz27_6⟩ := czf7 BK0.out
   go_wp2
   go_meet
   case rel => exact ⟨_, (false), aq7, H', ⟨aq50⟩, ⟨aq23⟩, ⟨aq17⟩, ⟨aq18⟩, ⟨aq11⟩, ⟨aq9⟩⟩
  rw [if_pos c19] at H
  have c19b0 : decide (0 ≤ a0_3) = true := decide_eq_true c19
  clear c19
  obtain ⟨t509, A20, H⟩ := bS_ H
  have H' := Aside0.mk H
  clear H
  have hnb21 := NB0_1.out
  have hnc21 := NB1_0.out
  have hnb22 := NB0_2.out
  have hnc22 := NB2_0.out
  obtain ⟨hcz23_0, hcz23_1, hcz23_2, hcz23_3, hcz23_4, hcz23_5, hcz23_6, hfz23_0, hfz23_1, hfz23_2, hfz23_3, hfz23_4, hfz23_5, hfz23_6⟩ := czf7 BK0.out
  obtain ⟨Ao24, co24, eo24⟩ := Kd.R_slice HO507.out
  subst eo24
  go_wp2_with (first | (go_at_call 24; (with_reducible refine (palingref22_has.calls k _ _ t505 a0_3 t509 _ ?side1 ?side2 A20.out).mono ?_); (case side1 => refine (Kd.R_reads' (e := 3) (base := w.heap.size) (ok := fun k_ => True) (n := t505.length) (c := co24) ?_).2.2; exact (by (with_reducible repeat (first | apply Kd.R_alloc | apply Kd.R_drewN | apply Kd.R_drew)); exact (Kd.R_mono (Kd.R_far (p := ⟨gb2, 6, none⟩) (Kd.R_far (p := ⟨gb2, 5, none⟩) (Kd.R_far (p := ⟨gb2, 4, none⟩) (Kd.R_far (p := ⟨gb2, 3, none⟩) (Kd.R_far (p := ⟨gb2, 2, none⟩) (Kd.R_far (p := ⟨gb2, 1, none⟩) (Kd.R_far (p := ⟨gb2, 0, none⟩) (Kd.R_types HO507.out BK2.out (by decide)) (fun _ hk => hk.2) (.int .i64 a0_0)) (fun _ hk => hk.2) (.int .i64 a0_1)) (fun _ hk => hk.2) (.int .i64 a0_2)) (fun _ hk => hk.2) (.int .i64 a0_3)) (fun _ hk => hk.2) (.int .i64 a0_4)) (fun _ hk => hk.2) (.int .i64 a0_5)) (fun _ hk => hk.2) (.int .i64 a0_6)) (fun _ h_ => h_.1)))); (case side2 => exact (Kd.R_reads' HO507.out).2.1); rintro e w' ⟨rfl, ⟨nd, rfl⟩⟩))
  go_meet
  case rel => exact ⟨_, (t509), aq7, H', ⟨aq50⟩, ⟨aq23⟩, ⟨aq17⟩, ⟨aq18⟩, ⟨aq11⟩, ⟨aq9⟩⟩
 case rest =>
  clear HC4
  obtain ⟨kq, x28_3, rfl, HA, HJ3, HO_5, BK0, BK1, BK2, HB⟩ := hcut
  cases kq with
  | zero => exact absurd HA.out (by simp [palingref22_one.j0])
  | succ kj3 =>
   have H := HA.out
   clear HA
   simp only [palingref22_one.j0] at H
   have HC28 := Aside0.mk H
   clear H
   go_upto_if 28 with (fail)
   go_cut [5] (fun v5 wc => ∃ (kq : Nat) (x5_27 : List (S48)) (x509003_27 : Int), Aside0 (palingref22_one.j1 kq x5_27 a0_0 a0_1 a0_2 a0_3 a0_4 a0_5 a0_6 l1_0 l1_1 a1_2 a1_3 a0_0 a0_1 a0_2 x509003_27 a0_4 a0_5 a0_6 = some r) ∧ Aside0 (kq ≤ kj3) ∧ Aside0 (Kd.R k48 48 wc w.heap.size (fun k_ => k_ ≠ gb0 ∧ k_ ≠ gb2) v5 x5_27) ∧ Aside0 (wc.heap[gb0]? = some (.cells #[.int .i64 a0_0, .int .i64 a0_1, .int .i64 a0_2, .int .i64 a0_3, .int .i64 a0_4, .int .i64 a0_5, .int .i64 a0_6] 48 (0, 0))) ∧ Aside0 (wc.heap[gb1]? = some (.cells #[(.slice A1_0 l1_0.length c1_0), (.slice A1_1 l1_1.length c1_1), .int .i64 a1_2, .int .i64 a1_3] 42 (0, 0))) ∧ Aside0 (wc.heap[gb2]? = some (.cells #[.int .i64 a0_0, .int .i64 a0_1, .int .i64 a0_2, .int .i64 x509003_27, .int .i64 a0_4, .int .i64 a0_5, .int .i64 a0_6] 48 (0, 0))) ∧ Aside0 (Below w.heap.size w wc))
   case first =>
    have H := HC28.out
    clear HC28
    by_cases c29 : x28_3 = true
    rotate_left
    ·replace c29 := Bool.eq_false_iff.mpr c29
     subst c29
     rw [if_neg nf_] at H
     have H' := Aside0.mk H
     clear H
     go_wp2
     go_meet
     case rel => exact ⟨_, (([] : List (S48))), (a0_3), H', ⟨aq88⟩, ⟨aq8⟩, ⟨aq5⟩, ⟨aq16⟩, ⟨aq20⟩, ⟨aq9⟩⟩
    subst c29
    rw [if_pos rfl] at H
    obtain ⟨t510, A30, H⟩ := bS_ H
    by_cases c31 : t510 ≥ 0
    ·rw [if_pos c31] at H
     have c31b0 : decide (0 ≤ t510) = true := decide_eq_true c31
     clear c31
     (first | rw [c31b0] | (simp only [i64_w, i32_w]; rw [c31b0]) | skip)
     by_cases c32 : ([] : List (S48)).length < 2513169434916
     rotate_left
     ·rw [if_neg c32] at H
      exact absurd H (by simp)
     rw [if_pos c32] at H
     have LMc32 := Aside0.mk c32
     clear c32
     obtain ⟨y511, hy_⟩ : ∃ y_ : List (S48), y_ = (([] : List (S48)) ++ [(⟨4, 0, 13, (-1), 0, t510, 0⟩ : S48)]) := ⟨_, rfl⟩
     replace H : (palingref22_one.j1 kj3 y511 a0_0 a0_1 a0_2 a0_3 a0_4 a0_5 a0_6 l1_0 l1_1 a1_2 a1_3 a0_0 a0_1 a0_2 13 a0_4 a0_5 a0_6) = some r := aq1
     have Ny511 := Aside0.mk hy_
     clear hy_
     have H' := Aside0.mk H
     clear H
     have hnb33 := NB1_0.out
     have hnc33 := NB0_1.out
     have hnb34 := NB1_2.out
     have hnc34 := NB2_1.out
     obtain ⟨hcz35_0, hcz35_1, hcz35_2, hcz35_3, hfz35_0, hfz35_1, hfz35_2, hfz35_3⟩ := czf4 BK1.out
     have hnb36 := NB0_2.out
     have hnc36 := NB2_0.out
     obtain ⟨hcz37_0, hcz37_1, hcz37_2, hcz37_3, hcz37_4, hcz37_5, hcz37_6, hfz37_0, hfz37_1, hfz37_2, hfz37_3, hfz37_4, hfz37_5, hfz37_6⟩ := czf7 BK0.out
     go_wp2_with (first | ((with_reducible refine gate_callee (f := 46) rfl ?_); refine goesL_ (some 32) rfl rfl Tryd.func46 (by kernel_rfl) rfl #[.agg #[.slice A1_0 l1_0.length c1_0, .slice A1_1 l1_1.length c1_1, .int .i64 a1_2, .int .i64 a1_3], .int .i64 a0_3] rfl aq4 ?_; (with_reducible refine (palingref22_word.calls kj3 _ _ l1_0 _ _ l1_1 a1_2 a1_3 a0_3 t510 _ ?side1 ?side2 ?side3 ?side4 A30.out).mono ?_); (case side1 => repeat (first | exact (Kd.C_below HR1_0.out HB.out) | (with_reducible refine Kd.C_alloc ?_ _) | (with_reducible refine Kd.C_drewN ?_ _) | (with_reducible refine Kd.C_drew ?_))); (case side2 => exact HC1_0.out); (case side3 => repeat (first | exact (Kd.C_below HR1_1.out HB.out) | (with_reducible refine Kd.C_alloc ?_ _) | (with_reducible refine Kd.C_drewN ?_ _) | (with_reducible refine Kd.C_drew ?_))); (case side4 => exact HC1_1.out); rintro e w38 ⟨rfl, hb⟩; refine ⟨_, rfl, ?_⟩; replace HO_5 := Aside0.mk (Kd.R_below aq8 hb); replace BK0 := Aside0.mk (blk_below (g := gb0) (o := .cells #[.int .i64 a0_0, .int .i64 a0_1, .int .i64 a0_2, .int .i64 a0_3, .int .i64 a0_4, .int .i64 a0_5, .int .i64 a0_6] 48 (0, 0)) aq5 hb); replace BK1 := Aside0.mk (blk_below (g := gb1) (o := .cells #[.slice A1_0 l1_0.length c1_0, .slice A1_1 l1_1.length c1_1, .int .i64 a1_2, .int .i64 a1_3] 42 (0, 0)) aq16 hb); replace BK2 := Aside0.mk (blk_below (g := gb2) (o := .cells #[.int .i64 a0_0, .int .i64 a0_1, .int .i64 a0_2, .int .i64 a0_3, .int .i64 a0_4, .int .i64 a0_5, .int .i64 a0_6] 48 (0, 0)) aq20 hb); replace HB := Aside0.mk (below_step aq9 hb); (try clear hb); (try clear hb2); (try clear hk); (try clear hi)) | ((with_reducible refine gate_builtin (b := .append) (xs := #[.tmp 35, .tmp 38]) rfl ?_); at_builtin; refine Kd.R_append k48 (w0 := w) w.heap.size rfl (.tmp 35) (.tmp 38) 38 48 (.agg #[(.int .i64 0), (.int .i64 0), (.int .i64 0), (.int .i64 0), (.int .i64 0), (.int .i64 0), (.int .i64 0)]) 56 rfl Tryd.underlying38 info48 rfl (by decide) (by omega) (.slice none 0 0) ([] : List (S48)) (⟨4, 0, 13, (-1), 0, t510, 0⟩ : S48) [.int .i64 4, .int .i64 0, .int .i64 13, .int .i64 (-1), .int .i64 0, .int .i64 t510, .int .i64 0] (fun k_ => k_ ≠ gb0 ∧ k_ ≠ gb2) (fun _ => False) rfl rfl ?aP (fun _ hk => hk.elim) ?aF ?aO ?aB ?aS ?aL ?_; (case aP => exact k48_mkM _ _ _ (⟨4, 0, 13, (-1), 0, t510, 0⟩ : S48)); (case aB => exact aq9); (case aF => exact (fun k_ hk => ⟨Kd.freshB (g := gb0) (o := .cells #[.int .i64 a0_0, .int .i64 a0_1, .int .i64 a0_2, .int .i64 a0_3, .int .i64 a0_4, .int .i64 a0_5, .int .i64 a0_6] 48 (0, 0)) aq5 k_ hk, Kd.freshB (g := gb2) (o := .cells #[.int .i64 a0_0, .int .i64 a0_1, .int .i64 a0_2, .int .i64 a0_3, .int .i64 a0_4, .int .i64 a0_5, .int .i64 a0_6] 48 (0, 0)) aq20 k_ hk⟩)); (case aO => exact aq8); (case aS => exact (below_size aq9)); (case aL => have := LMc32.out; omega); intro v512 w39 ho hb hg hat; rw [← Ny511.out] at ho; replace BK0 := Aside0.mk (blk_grown (g := gb0) (o := .cells #[.int .i64 a0_0, .int .i64 a0_1, .int .i64 a0_2, .int .i64 a0_3, .int .i64 a0_4, .int .i64 a0_5, .int .i64 a0_6] 48 (0, 0)) aq5 hg (Kd.R_away HO_5.out (fun _ hk => hk.1))); replace BK1 := Aside0.mk (blk_grown (g := gb1) (o := .cells #[.slice A1_0 l1_0.length c1_0, .slice A1_1 l1_1.length c1_1, .int .i64 a1_2, .int .i64 a1_3] 42 (0, 0)) aq16 hg (Kd.R_ne HO_5.out BK1.out (by decide))); replace BK2 := Aside0.mk (blk_grown (g := gb2) (o := .cells #[.int .i64 a0_0, .int .i64 a0_1, .int .i64 a0_2, .int .i64 a0_3, .int .i64 a0_4, .int .i64 a0_5, .int .i64 a0_6] 48 (0, 0)) aq20 hg (Kd.R_away HO_5.out (fun _ hk => hk.2))); replace HB := Aside0.mk (hb); have HO513 := Aside0.mk (ho); clear HO_5; clear ho hb hg hat; obtain ⟨hcz40_0, hcz40_1, hcz40_2, hcz40_3, hcz40_4, hcz40_5, hcz40_6, hfz40_0, hfz40_1, hfz40_2, hfz40_3, hfz40_4, hfz40_5, hfz40_6⟩ := czf7 BK2.out))
     go_meet
     case rel => exact ⟨_, (y511), (13), H', ⟨aq88⟩, ⟨by (with_reducible repeat (first | apply Kd.R_alloc | apply Kd.R_drewN | apply Kd.R_drew)); exact Kd.R_mono (Kd.R_far (p := ⟨gb2, 3, none⟩) (Kd.R_mono HO513.out (fun k_ hk => (⟨hk, hk.2⟩ : _ ∧ k_ ≠ gb2))) (fun _ hk => hk.2) (.int .i64 13)) (fun _ hk => ⟨hk.1.1, hk.1.2⟩)⟩, ⟨aq25⟩, ⟨aq30⟩, ⟨by (with_reducible repeat (first | refine blk_drewN ?_ _ | refine blk_drew ?_ | refine blk_alloc ?_ _)); refine blk_put (cs := #[.int .i64 a0_0, .int .i64 a0_1, .int .i64 a0_2, .int .i64 a0_3, .int .i64 a0_4, .int .i64 a0_5, .int .i64 a0_6]) ?_ 3 _ rfl; (with_reducible repeat (first | refine blk_drewN ?_ _ | refine blk_drew ?_ | refine blk_alloc ?_ _)); exact BK2.out⟩, ⟨aq9⟩⟩
    rw [if_neg c31] at H
    have c31b0 : decide (0 ≤ t510) = false := decide_eq_false c31
    clear c31
    (first | rw [c31b0] | (simp only [i64_w, i32_w]; rw [c31b0]) | skip)
    obtain ⟨t514, A41, H⟩ := bS_ H
    by_cases c42 : 0 ≤ t514
    rotate_left
    ·rw [if_neg c42] at H
     exact absurd H (by simp)
    rw [if_pos c42] at H
    have c42b0 : decide (0 ≤ t514) = true := decide_eq_true c42
    clear c42
    by_cases c43 : t514 < (l1_0.length : Int)
    rotate_left
    ·rw [if_neg c43] at H
     exact absurd H (by simp)
    rw [if_pos c43] at H
    have c43b0 : decide (t514 < (l1_0.length : Int)) = true := decide_eq_true c43
    clear c43
    have H' := Aside0.mk H
    clear H
    have hnb44 := NB1_0.out
    have hnc44 := NB0_1.out
    have hnb45 := NB1_2.out
    have hnc45 := NB2_1.out
    obtain ⟨hcz46_0, hcz46_1, hcz46_2, hcz46_3, hfz46_0, hfz46_1, hfz46_2, hfz46_3⟩ := czf4 BK1.out
    have hnb47 := NB0_2.out
    have hnc47 := NB2_0.out
    obtain ⟨hcz48_0, hcz48_1, hcz48_2, hcz48_3, hcz48_4, hcz48_5, hcz48_6, hfz48_0, hfz48_1, hfz48_2, hfz48_3, hfz48_4, hfz48_5, hfz48_6⟩ := czf7 BK0.out
    try go_wp2_with (first | ((with_reducible refine gate_callee (f := 46) rfl ?_); refine goesL_ (some 32) rfl rfl Tryd.func46 (by kernel_rfl) rfl #[.agg #[.slice A1_0 l1_0.length c1_0, .slice A1_1 l1_1.length c1_1, .int .i64 a1_2, .int .i64 a1_3], .int .i64 a0_3] rfl aq4 ?_; (with_reducible refine (palingref22_word.calls kj3 _ _ l1_0 _ _ l1_1 a1_2 a1_3 a0_3 t510 _ ?side1 ?side2 ?side3 ?side4 A30.out).mono ?_); (case side1 => repeat (first | exact (Kd.C_below HR1_0.out HB.out) | (with_reducible refine Kd.C_alloc ?_ _) | (with_reducible refine Kd.C_drewN ?_ _) | (with_reducible refine Kd.C_drew ?_))); (case side2 => exact HC1_0.out); (case side3 => repeat (first | exact (Kd.C_below HR1_1.out HB.out) | (with_reducible refine Kd.C_alloc ?_ _) | (with_reducible refine Kd.C_drewN ?_ _) | (with_reducible refine Kd.C_drew ?_))); (case side4 => exact HC1_1.out); rintro e w49 ⟨rfl, hb⟩; refine ⟨_, rfl, ?_⟩; replace HO_5 := Aside0.mk (Kd.R_below aq8 hb); replace BK0 := Aside0.mk (blk_below (g := gb0) (o := .cells #[.int .i64 a0_0, .int .i64 a0_1, .int .i64 a0_2, .int .i64 a0_3, .int .i64 a0_4, .int .i64 a0_5, .int .i64 a0_6] 48 (0, 0)) aq5 hb); replace BK1 := Aside0.mk (blk_below (g := gb1) (o := .cells #[.slice A1_0 l1_0.length c1_0, .slice A1_1 l1_1.length c1_1, .int .i64 a1_2, .int .i64 a1_3] 42 (0, 0)) aq16 hb); replace BK2 := Aside0.mk (blk_below (g := gb2) (o := .cells #[.int .i64 a0_0, .int .i64 a0_1, .int .i64 a0_2, .int .i64 a0_3, .int .i64 a0_4, .int .i64 a0_5, .int .i64 a0_6] 48 (0, 0)) aq20 hb); replace HB := Aside0.mk (below_step aq9 hb); (try clear hb); (try clear hb2); (try clear hk); (try clear hi)))
    replace HO_5 := Aside0.mk (Kd.R_drew HO_5.out)
    replace BK0 := Aside0.mk (blk_drew BK0.out)
    replace BK1 := Aside0.mk (blk_drew BK1.out)
    replace BK2 := Aside0.mk (blk_drew BK2.out)
    replace HB := Aside0.mk (below_drew1 HB.out)
    have p515 : 0 ≤ (t514 : Int) := of_decide_eq_true aq2
    have q515 : t514 < (l1_0.length : Int) := of_decide_eq_true aq2
    obtain ⟨ad515, e515, hx515_0, hx515_1⟩ := at_T57 HR1_0.out t514 p515 q515
    have hw515_1 := hx515_1
    have hw515_0 := hx515_0
    cases e515
    replace hx515_0 := (HB.out.cell (World.block_lt_of_cell? w _ hx515_0)).trans hx515_0
    replace hx515_1 := (HB.out.cell (World.block_lt_of_cell? w _ hx515_1)).trans hx515_1
    replace p515 := eq_true p515
    replace q515 := eq_true q515
    refine start_ (n := 12) (S := fun w' => w'.cell? ⟨gb1, 0, none⟩ = some (.slice (some ad515) l1_0.length c1_0) ∧ w'.cell? ⟨gb1, 1, none⟩ = some (.slice A1_1 l1_1.length c1_1) ∧ w'.cell? ⟨gb1, 2, none⟩ = some (.int .i64 a1_2) ∧ w'.cell? ⟨gb1, 3, none⟩ = some (.int .i64 a1_3) ∧ w'.cell? ⟨gb0, 0, none⟩ = some (.int .i64 a0_0) ∧ w'.cell? ⟨gb0, 1, none⟩ = some (.int .i64 a0_1) ∧ w'.cell? ⟨gb0, 2, none⟩ = some (.int .i64 a0_2) ∧ w'.cell? ⟨gb0, 3, none⟩ = some (.int .i64 a0_3) ∧ w'.cell? ⟨gb0, 4, none⟩ = some (.int .i64 a0_4) ∧ w'.cell? ⟨gb0, 5, none⟩ = some (.int .i64 a0_5) ∧ w'.cell? ⟨gb0, 6, none⟩ = some (.int .i64 a0_6) ∧ w'.cell? (ad515.add ((t514).toNat * 2)) = some (.int .i64 ((rd_T57 l1_0 t514).f0)) ∧ w'.cell? ⟨(ad515.add ((t514).toNat * 2)).block, (ad515.add ((t514).toNat * 2)).off + 1, none⟩ = some (.int .i64 ((rd_T57 l1_0 t514).f1))) (ds := []) #[false, false, false, false, false, false, false, false, false, false, false, false] (by kernel_rfl) rfl rfl ⟨(blk_cell BK1.out 0).trans rfl, (blk_cell BK1.out 1).trans rfl, (blk_cell BK1.out 2).trans rfl, (blk_cell BK1.out 3).trans rfl, (blk_cell BK0.out 0).trans rfl, (blk_cell BK0.out 1).trans rfl, (blk_cell BK0.out 2).trans rfl, (blk_cell BK0.out 3).trans rfl, (blk_cell BK0.out 4).trans rfl, (blk_cell BK0.out 5).trans rfl, (blk_cell BK0.out 6).trans rfl, ((HB.out.cell (World.block_lt_of_cell? w _ hw515_0)).trans hw515_0), ((HB.out.cell (World.block_lt_of_cell? w _ hw515_1)).trans hw515_1)⟩ (fun hHeld => ?_); refine with_tabW palingref22_one.tab9 palingref22_one.bits9 (fun HT_ HW_ => ?_)
    generalize w49.drew = w50 at HO_5 BK0 BK1 BK2 HB hx515_0 hx515_1 hHeld ⊢
    refine pz (i := 0) (N := some 41) (bz 12 1) rfl rfl ?_
    refine pz (i := 2) (N := some 43) (bz 12 5) rfl rfl ?_
    refine pz (i := 4) (N := some 45) (bz 12 21) rfl rfl ?_
    refine tz13 (i := 1) (N := some 42) (bz 12 23) rfl rfl hHeld ?_
    refine tz13 (i := 3) (N := some 44) (bz 12 31) rfl rfl hHeld ?_
    refine tz13 (i := 5) (N := some 46) (bz 12 63) rfl rfl hHeld ?_
    refine one_ (i := 6) (N := some 47) #[true, true, true, true, true, true, true, false, false, false, false, false] rfl rfl (one_of HT_.out (by kernel_rfl)) (by decide) (fun K hK => ?_)
    refine goes_ Tryd.func26 (by kernel_rfl) rfl #[.slice (some ad515) l1_0.length c1_0, .int .i64 a0_3] (by rfl) rfl rfl aq4 ?_
    with_reducible refine (palingref22_find.calls kj3 _ _ l1_0 a0_3 t514 _ ?side1 ?side2 A41.out).mono ?_
    (case side1 => repeat (first | exact (Kd.C_below HR1_0.out HB.out) | (with_reducible refine Kd.C_alloc ?_ _) | (with_reducible refine Kd.C_drewN ?_ _) | (with_reducible refine Kd.C_drew ?_)))
    (case side2 => exact HC1_0.out)
    rintro e w' ⟨rfl, ⟨nd, rfl⟩⟩
    refine ⟨_, rfl, ?_⟩
    refine hK.out _ _ ⟨(blk_cell BK1.out 0).trans rfl, (blk_cell BK1.out 1).trans rfl, (blk_cell BK1.out 2).trans rfl, (blk_cell BK1.out 3).trans rfl, (blk_cell BK0.out 0).trans rfl, (blk_cell BK0.out 1).trans rfl, (blk_cell BK0.out 2).trans rfl, (blk_cell BK0.out 3).trans rfl, (blk_cell BK0.out 4).trans rfl, (blk_cell BK0.out 5).trans rfl, (blk_cell BK0.out 6).trans rfl, ((HB.out.cell (World.block_lt_of_cell? w _ hw515_0)).trans hw515_0), ((HB.out.cell (World.block_lt_of_cell? w _ hw515_1)).trans hw515_1)⟩ (fun hHeld => ?_)
    clear hK K
    refine norm_ (a' := ?_) ?_ ?_
    rotate_left
    ·show Act.put _ (some 47) _ = _
     simp only [Act.put, List.setIfInBounds_toArray, List.set_cons_zero, List.set_cons_succ, i64_w, i32_w]
     rfl
    refine pz (i := 7) (N := some 48) (bz 12 255) rfl rfl ?_
    refine pz (i := 8) (N := some 49) (bz 12 511) rfl rfl ?_
    refine tz13 (i := 9) (N := some 50) (bz 12 1023) rfl rfl hHeld ?_
    refine pz (i := 10) (N := some 51) (bz 12 2047) rfl rfl ?_
    refine one_ (i := 11) (N := none) #[true, true, true, true, true, true, true, true, true, true, true, true] rfl rfl (one_of HT_.out (by kernel_rfl)) (by decide) (fun K hK => ?_)
    have hs51 : w50.cell? ⟨gb2, 3, none⟩ = some (.int .i64 a0_3) := (blk_cell BK2.out 3).trans rfl
    have hfs51 := blk_frozen BK2.out 3
    have hns51_0 := NB0_2.out
    have hns51_1 := NB1_2.out
    have hms51_0 := NB2_0.out
    have hms51_1 := NB2_1.out
    refine skip_ (w1 := ?_) (by rfl) rfl ?_ ?_
    rotate_left
    ·go_simp
     rfl
    refine hK.out _ _ ⟨((cell_far (p := ⟨gb2, _, none⟩) NB1_2.out _).trans (hHeld.1)), ((cell_far (p := ⟨gb2, _, none⟩) NB1_2.out _).trans (hHeld.2.1)), ((cell_far (p := ⟨gb2, _, none⟩) NB1_2.out _).trans (hHeld.2.2.1)), ((cell_far (p := ⟨gb2, _, none⟩) NB1_2.out _).trans (hHeld.2.2.2.1)), ((cell_far (p := ⟨gb2, _, none⟩) NB0_2.out _).trans (hHeld.2.2.2.2.1)), ((cell_far (p := ⟨gb2, _, none⟩) NB0_2.out _).trans (hHeld.2.2.2.2.2.1)), ((cell_far (p := ⟨gb2, _, none⟩) NB0_2.out _).trans (hHeld.2.2.2.2.2.2.1)), ((cell_far (p := ⟨gb2, _, none⟩) NB0_2.out _).trans (hHeld.2.2.2.2.2.2.2.1)), ((cell_far (p := ⟨gb2, _, none⟩) NB0_2.out _).trans (hHeld.2.2.2.2.2.2.2.2.1)), ((cell_far (p := ⟨gb2, _, none⟩) NB0_2.out _).trans (hHeld.2.2.2.2.2.2.2.2.2.1)), ((cell_far (p := ⟨gb2, _, none⟩) NB0_2.out _).trans (hHeld.2.2.2.2.2.2.2.2.2.2.1)), ((cell_far (p := ⟨gb2, _, none⟩) (by first | exact Nat.ne_of_lt (Nat.lt_of_lt_of_le aq68 GW2.out) | (rw [add_block]; exact Nat.ne_of_lt (Nat.lt_of_lt_of_le aq68 GW2.out)) | (show (Addr.add _ _).block ≠ _; rw [add_block]; exact Nat.ne_of_lt (Nat.lt_of_lt_of_le aq68 GW2.out)) | (dsimp only; exact Nat.ne_of_lt (Nat.lt_of_lt_of_le aq68 GW2.out))) _).trans (hHeld.2.2.2.2.2.2.2.2.2.2.2.1)), ((cell_far (p := ⟨gb2, _, none⟩) (by first | exact Nat.ne_of_lt (Nat.lt_of_lt_of_le aq69 GW2.out) | (rw [add_block]; exact Nat.ne_of_lt (Nat.lt_of_lt_of_le aq69 GW2.out)) | (show (Addr.add _ _).block ≠ _; rw [add_block]; exact Nat.ne_of_lt (Nat.lt_of_lt_of_le aq69 GW2.out)) | (dsimp only; exact Nat.ne_of_lt (Nat.lt_of_lt_of_le aq69 GW2.out))) _).trans (hHeld.2.2.2.2.2.2.2.2.2.2.2.2))⟩ (fun hHeld => ?_)
    clear hK K
    refine done_ (done_of HT_.out (by kernel_rfl)) ?_
    try go_wp2
    go_meet
    case rel => exact ⟨_, (([] : List (S48))), ((rd_T57 l1_0 t514).f1), H', ⟨aq88⟩, ⟨by (with_reducible repeat (first | apply Kd.R_alloc | apply Kd.R_drewN | apply Kd.R_drew)); exact Kd.R_mono (Kd.R_far (p := ⟨gb2, 3, none⟩) (Kd.R_mono HO_5.out (fun k_ hk => (⟨hk, hk.2⟩ : _ ∧ k_ ≠ gb2))) (fun _ hk => hk.2) (.int .i64 ((rd_T57 l1_0 t514).f1))) (fun _ hk => ⟨hk.1.1, hk.1.2⟩)⟩, ⟨aq25⟩, ⟨aq30⟩, ⟨by (with_reducible repeat (first | refine blk_drewN ?_ _ | refine blk_drew ?_ | refine blk_alloc ?_ _)); refine blk_put (cs := #[.int .i64 a0_0, .int .i64 a0_1, .int .i64 a0_2, .int .i64 a0_3, .int .i64 a0_4, .int .i64 a0_5, .int .i64 a0_6]) ?_ 3 _ rfl; (with_reducible repeat (first | refine blk_drewN ?_ _ | refine blk_drew ?_ | refine blk_alloc ?_ _)); exact BK2.out⟩, ⟨aq9⟩⟩
   case rest =>
    clear HC28
    obtain ⟨kq, x5_27, x509003_27, HA, HJ27, HO_5, BK0, BK1, BK2, HB⟩ := hcut
    cases kq with
    | zero => exact absurd HA.out (by simp [palingref22_one.j1])
    | succ kj27 =>
     have H := HA.out
     clear HA
     simp only [palingref22_one.j1] at H
     have HC52 := Aside0.mk H
     clear H
     go_upto_region 10 with (fail)
     go_cut [64] (fun v64 wc => ∃ (kq : Nat) (x64_51 : Bool), v64 = .bool x64_51 ∧ Aside0 (palingref22_one.j2 kq x5_27 x64_51 a0_0 a0_1 a0_2 a0_3 a0_4 a0_5 a0_6 l1_0 l1_1 a1_2 a1_3 a0_0 a0_1 a0_2 x509003_27 a0_4 a0_5 a0_6 = some r) ∧ Aside0 (kq ≤ kj27) ∧ Aside0 (Kd.R k48 48 wc w.heap.size (fun k_ => k_ ≠ gb0 ∧ k_ ≠ gb2) u5 x5_27) ∧ Aside0 (wc.heap[gb0]? = some (.cells #[.int .i64 a0_0, .int .i64 a0_1, .int .i64 a0_2, .int .i64 a0_3, .int .i64 a0_4, .int .i64 a0_5, .int .i64 a0_6] 48 (0, 0))) ∧ Aside0 (wc.heap[gb1]? = some (.cells #[(.slice A1_0 l1_0.length c1_0), (.slice A1_1 l1_1.length c1_1), .int .i64 a1_2, .int .i64 a1_3] 42 (0, 0))) ∧ Aside0 (wc.heap[gb2]? = some (.cells #[.int .i64 a0_0, .int .i64 a0_1, .int .i64 a0_2, .int .i64 x509003_27, .int .i64 a0_4, .int .i64 a0_5, .int .i64 a0_6] 48 (0, 0))) ∧ Aside0 (Below w.heap.size w wc))
     case first =>
      have H := HC52.out
      clear HC52
      by_cases c53 : a0_0 = 2
      ·rw [if_pos c53] at H
       have c53b0 : (a0_0 == 2) = true := beq_iff_eq.mpr c53
       have c53b1 : (a0_0 != 2) = false := bne_eq_false_iff_eq.mpr c53
       clear c53
       (first | rw [c53b0] | (simp only [i64_w, i32_w]; rw [c53b0]) | skip)
       have H' := Aside0.mk H
       clear H
       have hnb54 := NB0_1.out
       have hnc54 := NB1_0.out
       have hnb55 := NB0_2.out
       have hnc55 := NB2_0.out
       obtain ⟨hcz56_0, hcz56_1, hcz56_2, hcz56_3, hcz56_4, hcz56_5, hcz56_6, hfz56_0, hfz56_1, hfz56_2, hfz56_3, hfz56_4, hfz56_5, hfz56_6⟩ := czf7 BK0.out
       go_wp2
       go_meet
       case rel => exact ⟨_, (true), aq7, H', ⟨aq86⟩, ⟨aq8⟩, ⟨aq5⟩, ⟨aq16⟩, ⟨aq20⟩, ⟨aq9⟩⟩
      rw [if_neg c53] at H
      have c53b0 : (a0_0 == 2) = false := beq_eq_false_iff_ne.mpr c53
      have c53b1 : (a0_0 != 2) = true := bne_iff_ne.mpr c53
      (first | rw [c53b0] | (simp only [i64_w, i32_w]; rw [c53b0]) | skip)
      by_cases c57 : a0_0 = 3
      rotate_left
      ·rw [if_neg c57] at H
       have c57b0 : (a0_0 == 3) = false := beq_eq_false_iff_ne.mpr c57
       have c57b1 : (a0_0 != 3) = true := bne_iff_ne.mpr c57
       have H' := Aside0.mk H
       clear H
       have hnb61 := NB0_1.out
       have hnc61 := NB1_0.out
       have hnb62 := NB0_2.out
       have hnc62 := NB2_0.out
       obtain ⟨hcz63_0, hcz63_1, hcz63_2, hcz63_3, hcz63_4, hcz63_5, hcz63_6, hfz63_0, hfz63_1, hfz63_2, hfz63_3, hfz63_4, hfz63_5, hfz63_6⟩ := czf7 BK0.out
       go_wp2
       go_meet
       case rel => exact ⟨_, ((a0_0 == 5)), aq7, H', ⟨aq86⟩, ⟨aq8⟩, ⟨aq5⟩, ⟨aq16⟩, ⟨aq20⟩, ⟨aq9⟩⟩
      rw [if_pos c57] at H
      have c57b0 : (a0_0 == 3) = true := beq_iff_eq.mpr c57
      have c57b1 : (a0_0 != 3) = false := bne_eq_false_iff_eq.mpr c57
      clear c57
      have H' := Aside0.mk H
      clear H
      have hnb58 := NB0_1.out
      have hnc58 := NB1_0.out
      have hnb59 := NB0_2.out
      have hnc59 := NB2_0.out
      obtain ⟨hcz60_0, hcz60_1, hcz60_2, hcz60_3, hcz60_4, hcz60_5, hcz60_6, hfz60_0, hfz60_1, hfz60_2, hfz60_3, hfz60_4, hfz60_5, hfz60_6⟩ := czf7 BK0.out
      go_wp2
      go_meet
      case rel => exact ⟨_, (true), aq7, H', ⟨aq86⟩, ⟨aq8⟩, ⟨aq5⟩, ⟨aq16⟩, ⟨aq20⟩, ⟨aq9⟩⟩
     case rest =>
      clear HC52
      obtain ⟨kq, x64_51, rfl, HA, HJ51, HO_5, BK0, BK1, BK2, HB⟩ := hcut
      cases kq with
      | zero => exact absurd HA.out (by simp [palingref22_one.j2])
      | succ kj51 =>
       have H := HA.out
       clear HA
       simp only [palingref22_one.j2] at H
       have HC64 := Aside0.mk H
       clear H
       go_upto_if 64 with (fail)
       go_cut [5] (fun v5 wc => ∃ (kq : Nat) (x5_63 : List (S48)) (x509004_63 : Int), Aside0 (palingref22_one.j3 kq x5_63 a0_0 a0_1 a0_2 a0_3 a0_4 a0_5 a0_6 l1_0 l1_1 a1_2 a1_3 a0_0 a0_1 a0_2 x509003_27 x509004_63 a0_5 a0_6 = some r) ∧ Aside0 (kq ≤ kj51) ∧ Aside0 (Kd.R k48 48 wc w.heap.size (fun k_ => k_ ≠ gb0 ∧ k_ ≠ gb2) v5 x5_63) ∧ Aside0 (wc.heap[gb0]? = some (.cells #[.int .i64 a0_0, .int .i64 a0_1, .int .i64 a0_2, .int .i64 a0_3, .int .i64 a0_4, .int .i64 a0_5, .int .i64 a0_6] 48 (0, 0))) ∧ Aside0 (wc.heap[gb1]? = some (.cells #[(.slice A1_0 l1_0.length c1_0), (.slice A1_1 l1_1.length c1_1), .int .i64 a1_2, .int .i64 a1_3] 42 (0, 0))) ∧ Aside0 (wc.heap[gb2]? = some (.cells #[.int .i64 a0_0, .int .i64 a0_1, .int .i64 a0_2, .int .i64 x509003_27, .int .i64 x509004_63, .int .i64 a0_5, .int .i64 a0_6] 48 (0, 0))) ∧ Aside0 (Below w.heap.size w wc))
       case first =>
        have H := HC64.out
        clear HC64
        by_cases c65 : x64_51 = true
        rotate_left
        ·replace c65 := Bool.eq_false_iff.mpr c65
         subst c65
         rw [if_neg nf_] at H
         have H' := Aside0.mk H
         clear H
         go_wp2
         go_meet
         case rel => exact ⟨_, (x5_27), (a0_4), H', ⟨aq84⟩, ⟨aq8⟩, ⟨aq5⟩, ⟨aq16⟩, ⟨aq20⟩, ⟨aq9⟩⟩
        subst c65
        rw [if_pos rfl] at H
        obtain ⟨t516, A66, H⟩ := bS_ H
        by_cases c67 : t516 ≥ 0
        ·rw [if_pos c67] at H
         have c67b0 : decide (0 ≤ t516) = true := decide_eq_true c67
         clear c67
         (first | rw [c67b0] | (simp only [i64_w, i32_w]; rw [c67b0]) | skip)
         by_cases c68 : x5_27.length < 2513169434916
         rotate_left
         ·rw [if_neg c68] at H
          exact absurd H (by simp)
         rw [if_pos c68] at H
         have LMc68 := Aside0.mk c68
         clear c68
         obtain ⟨y517, hy_⟩ : ∃ y_ : List (S48), y_ = (x5_27 ++ [(⟨4, 0, 14, (-1), 0, t516, 0⟩ : S48)]) := ⟨_, rfl⟩
         replace H : (palingref22_one.j3 kj51 y517 a0_0 a0_1 a0_2 a0_3 a0_4 a0_5 a0_6 l1_0 l1_1 a1_2 a1_3 a0_0 a0_1 a0_2 x509003_27 14 a0_5 a0_6) = some r := aq1
         have Ny517 := Aside0.mk hy_
         clear hy_
         have H' := Aside0.mk H
         clear H
         have hnb69 := NB1_0.out
         have hnc69 := NB0_1.out
         have hnb70 := NB1_2.out
         have hnc70 := NB2_1.out
         obtain ⟨hcz71_0, hcz71_1, hcz71_2, hcz71_3, hfz71_0, hfz71_1, hfz71_2, hfz71_3⟩ := czf4 BK1.out
         have hnb72 := NB0_2.out
         have hnc72 := NB2_0.out
         obtain ⟨hcz73_0, hcz73_1, hcz73_2, hcz73_3, hcz73_4, hcz73_5, hcz73_6, hfz73_0, hfz73_1, hfz73_2, hfz73_3, hfz73_4, hfz73_5, hfz73_6⟩ := czf7 BK0.out
         go_wp2_with (first | ((with_reducible refine gate_callee (f := 46) rfl ?_); refine goesL_ (some 68) rfl rfl Tryd.func46 (by kernel_rfl) rfl #[.agg #[.slice A1_0 l1_0.length c1_0, .slice A1_1 l1_1.length c1_1, .int .i64 a1_2, .int .i64 a1_3], .int .i64 a0_4] rfl aq4 ?_; (with_reducible refine (palingref22_word.calls kj51 _ _ l1_0 _ _ l1_1 a1_2 a1_3 a0_4 t516 _ ?side1 ?side2 ?side3 ?side4 A66.out).mono ?_); (case side1 => repeat (first | exact (Kd.C_below HR1_0.out HB.out) | (with_reducible refine Kd.C_alloc ?_ _) | (with_reducible refine Kd.C_drewN ?_ _) | (with_reducible refine Kd.C_drew ?_))); (case side2 => exact HC1_0.out); (case side3 => repeat (first | exact (Kd.C_below HR1_1.out HB.out) | (with_reducible refine Kd.C_alloc ?_ _) | (with_reducible refine Kd.C_drewN ?_ _) | (with_reducible refine Kd.C_drew ?_))); (case side4 => exact HC1_1.out); rintro e w74 ⟨rfl, hb⟩; refine ⟨_, rfl, ?_⟩; replace HO_5 := Aside0.mk (Kd.R_below aq8 hb); replace BK0 := Aside0.mk (blk_below (g := gb0) (o := .cells #[.int .i64 a0_0, .int .i64 a0_1, .int .i64 a0_2, .int .i64 a0_3, .int .i64 a0_4, .int .i64 a0_5, .int .i64 a0_6] 48 (0, 0)) aq5 hb); replace BK1 := Aside0.mk (blk_below (g := gb1) (o := .cells #[.slice A1_0 l1_0.length c1_0, .slice A1_1 l1_1.length c1_1, .int .i64 a1_2, .int .i64 a1_3] 42 (0, 0)) aq16 hb); replace BK2 := Aside0.mk (blk_below (g := gb2) (o := .cells #[.int .i64 a0_0, .int .i64 a0_1, .int .i64 a0_2, .int .i64 x509003_27, .int .i64 a0_4, .int .i64 a0_5, .int .i64 a0_6] 48 (0, 0)) aq20 hb); replace HB := Aside0.mk (below_step aq9 hb); (try clear hb); (try clear hb2); (try clear hk); (try clear hi)) | ((with_reducible refine gate_builtin (b := .append) (xs := #[.tmp 71, .tmp 74]) rfl ?_); at_builtin; refine Kd.R_append k48 (w0 := w) w.heap.size rfl (.tmp 71) (.tmp 74) 38 48 (.agg #[(.int .i64 0), (.int .i64 0), (.int .i64 0), (.int .i64 0), (.int .i64 0), (.int .i64 0), (.int .i64 0)]) 56 rfl Tryd.underlying38 info48 rfl (by decide) (by omega) u5 x5_27 (⟨4, 0, 14, (-1), 0, t516, 0⟩ : S48) [.int .i64 4, .int .i64 0, .int .i64 14, .int .i64 (-1), .int .i64 0, .int .i64 t516, .int .i64 0] (fun k_ => k_ ≠ gb0 ∧ k_ ≠ gb2) (fun _ => False) rfl rfl ?aP (fun _ hk => hk.elim) ?aF ?aO ?aB ?aS ?aL ?_; (case aP => exact k48_mkM _ _ _ (⟨4, 0, 14, (-1), 0, t516, 0⟩ : S48)); (case aB => exact aq9); (case aF => exact (fun k_ hk => ⟨Kd.freshB (g := gb0) (o := .cells #[.int .i64 a0_0, .int .i64 a0_1, .int .i64 a0_2, .int .i64 a0_3, .int .i64 a0_4, .int .i64 a0_5, .int .i64 a0_6] 48 (0, 0)) aq5 k_ hk, Kd.freshB (g := gb2) (o := .cells #[.int .i64 a0_0, .int .i64 a0_1, .int .i64 a0_2, .int .i64 x509003_27, .int .i64 a0_4, .int .i64 a0_5, .int .i64 a0_6] 48 (0, 0)) aq20 k_ hk⟩)); (case aO => exact aq8); (case aS => exact (below_size aq9)); (case aL => have := LMc68.out; omega); intro v518 w75 ho hb hg hat; rw [← Ny517.out] at ho; replace BK0 := Aside0.mk (blk_grown (g := gb0) (o := .cells #[.int .i64 a0_0, .int .i64 a0_1, .int .i64 a0_2, .int .i64 a0_3, .int .i64 a0_4, .int .i64 a0_5, .int .i64 a0_6] 48 (0, 0)) aq5 hg (Kd.R_away HO_5.out (fun _ hk => hk.1))); replace BK1 := Aside0.mk (blk_grown (g := gb1) (o := .cells #[.slice A1_0 l1_0.length c1_0, .slice A1_1 l1_1.length c1_1, .int .i64 a1_2, .int .i64 a1_3] 42 (0, 0)) aq16 hg (Kd.R_ne HO_5.out BK1.out (by decide))); replace BK2 := Aside0.mk (blk_grown (g := gb2) (o := .cells #[.int .i64 a0_0, .int .i64 a0_1, .int .i64 a0_2, .int .i64 x509003_27, .int .i64 a0_4, .int .i64 a0_5, .int .i64 a0_6] 48 (0, 0)) aq20 hg (Kd.R_away HO_5.out (fun _ hk => hk.2))); replace HB := Aside0.mk (hb); have HO519 := Aside0.mk (ho); clear HO_5; clear ho hb hg hat; obtain ⟨hcz76_0, hcz76_1, hcz76_2, hcz76_3, hcz76_4, hcz76_5, hcz76_6, hfz76_0, hfz76_1, hfz76_2, hfz76_3, hfz76_4, hfz76_5, hfz76_6⟩ := czf7 BK2.out))
         go_meet
         case rel => exact ⟨_, (y517), (14), H', ⟨aq84⟩, ⟨by (with_reducible repeat (first | apply Kd.R_alloc | apply Kd.R_drewN | apply Kd.R_drew)); exact Kd.R_mono (Kd.R_far (p := ⟨gb2, 4, none⟩) (Kd.R_mono HO519.out (fun k_ hk => (⟨hk, hk.2⟩ : _ ∧ k_ ≠ gb2))) (fun _ hk => hk.2) (.int .i64 14)) (fun _ hk => ⟨hk.1.1, hk.1.2⟩)⟩, ⟨aq25⟩, ⟨aq30⟩, ⟨by (with_reducible repeat (first | refine blk_drewN ?_ _ | refine blk_drew ?_ | refine blk_alloc ?_ _)); refine blk_put (cs := #[.int .i64 a0_0, .int .i64 a0_1, .int .i64 a0_2, .int .i64 x509003_27, .int .i64 a0_4, .int .i64 a0_5, .int .i64 a0_6]) ?_ 4 _ rfl; (with_reducible repeat (first | refine blk_drewN ?_ _ | refine blk_drew ?_ | refine blk_alloc ?_ _)); exact BK2.out⟩, ⟨aq9⟩⟩
        rw [if_neg c67] at H
        have c67b0 : decide (0 ≤ t516) = false := decide_eq_false c67
        clear c67
        (first | rw [c67b0] | (simp only [i64_w, i32_w]; rw [c67b0]) | skip)
        obtain ⟨t520, A77, H⟩ := bS_ H
        by_cases c78 : 0 ≤ t520
        rotate_left
        ·rw [if_neg c78] at H
         exact absurd H (by simp)
        rw [if_pos c78] at H
        have c78b0 : decide (0 ≤ t520) = true := decide_eq_true c78
        clear c78
        by_cases c79 : t520 < (l1_0.length : Int)
        rotate_left
        ·rw [if_neg c79] at H
         exact absurd H (by simp)
        rw [if_pos c79] at H
        have c79b0 : decide (t520 < (l1_0.length : Int)) = true := decide_eq_true c79
        clear c79
        have H' := Aside0.mk H
        clear H
        have hnb80 := NB1_0.out
        have hnc80 := NB0_1.out
        have hnb81 := NB1_2.out
        have hnc81 := NB2_1.out
        obtain ⟨hcz82_0, hcz82_1, hcz82_2, hcz82_3, hfz82_0, hfz82_1, hfz82_2, hfz82_3⟩ := czf4 BK1.out
        have hnb83 := NB0_2.out
        have hnc83 := NB2_0.out
        obtain ⟨hcz84_0, hcz84_1, hcz84_2, hcz84_3, hcz84_4, hcz84_5, hcz84_6, hfz84_0, hfz84_1, hfz84_2, hfz84_3, hfz84_4, hfz84_5, hfz84_6⟩ := czf7 BK0.out
        try go_wp2_with (first | ((with_reducible refine gate_callee (f := 46) rfl ?_); refine goesL_ (some 68) rfl rfl Tryd.func46 (by kernel_rfl) rfl #[.agg #[.slice A1_0 l1_0.length c1_0, .slice A1_1 l1_1.length c1_1, .int .i64 a1_2, .int .i64 a1_3], .int .i64 a0_4] rfl aq4 ?_; (with_reducible refine (palingref22_word.calls kj51 _ _ l1_0 _ _ l1_1 a1_2 a1_3 a0_4 t516 _ ?side1 ?side2 ?side3 ?side4 A66.out).mono ?_); (case side1 => repeat (first | exact (Kd.C_below HR1_0.out HB.out) | (with_reducible refine Kd.C_alloc ?_ _) | (with_reducible refine Kd.C_drewN ?_ _) | (with_reducible refine Kd.C_drew ?_))); (case side2 => exact HC1_0.out); (case side3 => repeat (first | exact (Kd.C_below HR1_1.out HB.out) | (with_reducible refine Kd.C_alloc ?_ _) | (with_reducible refine Kd.C_drewN ?_ _) | (with_reducible refine Kd.C_drew ?_))); (case side4 => exact HC1_1.out); rintro e w85 ⟨rfl, hb⟩; refine ⟨_, rfl, ?_⟩; replace HO_5 := Aside0.mk (Kd.R_below aq8 hb); replace BK0 := Aside0.mk (blk_below (g := gb0) (o := .cells #[.int .i64 a0_0, .int .i64 a0_1, .int .i64 a0_2, .int .i64 a0_3, .int .i64 a0_4, .int .i64 a0_5, .int .i64 a0_6] 48 (0, 0)) aq5 hb); replace BK1 := Aside0.mk (blk_below (g := gb1) (o := .cells #[.slice A1_0 l1_0.length c1_0, .slice A1_1 l1_1.length c1_1, .int .i64 a1_2, .int .i64 a1_3] 42 (0, 0)) aq16 hb); replace BK2 := Aside0.mk (blk_below (g := gb2) (o := .cells #[.int .i64 a0_0, .int .i64 a0_1, .int .i64 a0_2, .int .i64 x509003_27, .int .i64 a0_4, .int .i64 a0_5, .int .i64 a0_6] 48 (0, 0)) aq20 hb); replace HB := Aside0.mk (below_step aq9 hb); (try clear hb); (try clear hb2); (try clear hk); (try clear hi)))
        replace HO_5 := Aside0.mk (Kd.R_drew HO_5.out)
        replace BK0 := Aside0.mk (blk_drew BK0.out)
        replace BK1 := Aside0.mk (blk_drew BK1.out)
        replace BK2 := Aside0.mk (blk_drew BK2.out)
        replace HB := Aside0.mk (below_drew1 HB.out)
        have p521 : 0 ≤ (t520 : Int) := of_decide_eq_true aq2
        have q521 : t520 < (l1_0.length : Int) := of_decide_eq_true aq2
        obtain ⟨ad521, e521, hx521_0, hx521_1⟩ := at_T57 HR1_0.out t520 p521 q521
        have hw521_1 := hx521_1
        have hw521_0 := hx521_0
        cases e521
        replace hx521_0 := (HB.out.cell (World.block_lt_of_cell? w _ hx521_0)).trans hx521_0
        replace hx521_1 := (HB.out.cell (World.block_lt_of_cell? w _ hx521_1)).trans hx521_1
        replace p521 := eq_true p521
        replace q521 := eq_true q521
        refine start_ (n := 12) (S := fun w' => w'.cell? ⟨gb1, 0, none⟩ = some (.slice (some ad521) l1_0.length c1_0) ∧ w'.cell? ⟨gb1, 1, none⟩ = some (.slice A1_1 l1_1.length c1_1) ∧ w'.cell? ⟨gb1, 2, none⟩ = some (.int .i64 a1_2) ∧ w'.cell? ⟨gb1, 3, none⟩ = some (.int .i64 a1_3) ∧ w'.cell? ⟨gb0, 0, none⟩ = some (.int .i64 a0_0) ∧ w'.cell? ⟨gb0, 1, none⟩ = some (.int .i64 a0_1) ∧ w'.cell? ⟨gb0, 2, none⟩ = some (.int .i64 a0_2) ∧ w'.cell? ⟨gb0, 3, none⟩ = some (.int .i64 a0_3) ∧ w'.cell? ⟨gb0, 4, none⟩ = some (.int .i64 a0_4) ∧ w'.cell? ⟨gb0, 5, none⟩ = some (.int .i64 a0_5) ∧ w'.cell? ⟨gb0, 6, none⟩ = some (.int .i64 a0_6) ∧ w'.cell? (ad521.add ((t520).toNat * 2)) = some (.int .i64 ((rd_T57 l1_0 t520).f0)) ∧ w'.cell? ⟨(ad521.add ((t520).toNat * 2)).block, (ad521.add ((t520).toNat * 2)).off + 1, none⟩ = some (.int .i64 ((rd_T57 l1_0 t520).f1))) (ds := []) #[false, false, false, false, false, false, false, false, false, false, false, false] (by kernel_rfl) rfl rfl ⟨(blk_cell BK1.out 0).trans rfl, (blk_cell BK1.out 1).trans rfl, (blk_cell BK1.out 2).trans rfl, (blk_cell BK1.out 3).trans rfl, (blk_cell BK0.out 0).trans rfl, (blk_cell BK0.out 1).trans rfl, (blk_cell BK0.out 2).trans rfl, (blk_cell BK0.out 3).trans rfl, (blk_cell BK0.out 4).trans rfl, (blk_cell BK0.out 5).trans rfl, (blk_cell BK0.out 6).trans rfl, ((HB.out.cell (World.block_lt_of_cell? w _ hw521_0)).trans hw521_0), ((HB.out.cell (World.block_lt_of_cell? w _ hw521_1)).trans hw521_1)⟩ (fun hHeld => ?_); refine with_tabW palingref22_one.tab15 palingref22_one.bits15 (fun HT_ HW_ => ?_)
        generalize w85.drew = w86 at HO_5 BK0 BK1 BK2 HB hx521_0 hx521_1 hHeld ⊢
        refine pz (i := 0) (N := some 77) (bz 12 1) rfl rfl ?_
        refine pz (i := 2) (N := some 79) (bz 12 5) rfl rfl ?_
        refine pz (i := 4) (N := some 81) (bz 12 21) rfl rfl ?_
        refine tz13 (i := 1) (N := some 78) (bz 12 23) rfl rfl hHeld ?_
        refine tz13 (i := 3) (N := some 80) (bz 12 31) rfl rfl hHeld ?_
        refine tz13 (i := 5) (N := some 82) (bz 12 63) rfl rfl hHeld ?_
        refine one_ (i := 6) (N := some 83) #[true, true, true, true, true, true, true, false, false, false, false, false] rfl rfl (one_of HT_.out (by kernel_rfl)) (by decide) (fun K hK => ?_)
        refine goes_ Tryd.func26 (by kernel_rfl) rfl #[.slice (some ad521) l1_0.length c1_0, .int .i64 a0_4] (by rfl) rfl rfl aq4 ?_
        with_reducible refine (palingref22_find.calls kj51 _ _ l1_0 a0_4 t520 _ ?side1 ?side2 A77.out).mono ?_
        (case side1 => repeat (first | exact (Kd.C_below HR1_0.out HB.out) | (with_reducible refine Kd.C_alloc ?_ _) | (with_reducible refine Kd.C_drewN ?_ _) | (with_reducible refine Kd.C_drew ?_)))
        (case side2 => exact HC1_0.out)
        rintro e w' ⟨rfl, ⟨nd, rfl⟩⟩
        refine ⟨_, rfl, ?_⟩
        refine hK.out _ _ ⟨(blk_cell BK1.out 0).trans rfl, (blk_cell BK1.out 1).trans rfl, (blk_cell BK1.out 2).trans rfl, (blk_cell BK1.out 3).trans rfl, (blk_cell BK0.out 0).trans rfl, (blk_cell BK0.out 1).trans rfl, (blk_cell BK0.out 2).trans rfl, (blk_cell BK0.out 3).trans rfl, (blk_cell BK0.out 4).trans rfl, (blk_cell BK0.out 5).trans rfl, (blk_cell BK0.out 6).trans rfl, ((HB.out.cell (World.block_lt_of_cell? w _ hw521_0)).trans hw521_0), ((HB.out.cell (World.block_lt_of_cell? w _ hw521_1)).trans hw521_1)⟩ (fun hHeld => ?_)
        clear hK K
        refine norm_ (a' := ?_) ?_ ?_
        rotate_left
        ·show Act.put _ (some 83) _ = _
         simp only [Act.put, List.setIfInBounds_toArray, List.set_cons_zero, List.set_cons_succ, i64_w, i32_w]
         rfl
        refine pz (i := 7) (N := some 84) (bz 12 255) rfl rfl ?_
        refine pz (i := 8) (N := some 85) (bz 12 511) rfl rfl ?_
        refine tz13 (i := 9) (N := some 86) (bz 12 1023) rfl rfl hHeld ?_
        refine pz (i := 10) (N := some 87) (bz 12 2047) rfl rfl ?_
        refine one_ (i := 11) (N := none) #[true, true, true, true, true, true, true, true, true, true, true, true] rfl rfl (one_of HT_.out (by kernel_rfl)) (by decide) (fun K hK => ?_)
        have hs87 : w86.cell? ⟨gb2, 4, none⟩ = some (.int .i64 a0_4) := (blk_cell BK2.out 4).trans rfl
        have hfs87 := blk_frozen BK2.out 4
        have hns87_0 := NB0_2.out
        have hns87_1 := NB1_2.out
        have hms87_0 := NB2_0.out
        have hms87_1 := NB2_1.out
        refine skip_ (w1 := ?_) (by rfl) rfl ?_ ?_
        rotate_left
        ·go_simp
         rfl
        refine hK.out _ _ ⟨((cell_far (p := ⟨gb2, _, none⟩) NB1_2.out _).trans (hHeld.1)), ((cell_far (p := ⟨gb2, _, none⟩) NB1_2.out _).trans (hHeld.2.1)), ((cell_far (p := ⟨gb2, _, none⟩) NB1_2.out _).trans (hHeld.2.2.1)), ((cell_far (p := ⟨gb2, _, none⟩) NB1_2.out _).trans (hHeld.2.2.2.1)), ((cell_far (p := ⟨gb2, _, none⟩) NB0_2.out _).trans (hHeld.2.2.2.2.1)), ((cell_far (p := ⟨gb2, _, none⟩) NB0_2.out _).trans (hHeld.2.2.2.2.2.1)), ((cell_far (p := ⟨gb2, _, none⟩) NB0_2.out _).trans (hHeld.2.2.2.2.2.2.1)), ((cell_far (p := ⟨gb2, _, none⟩) NB0_2.out _).trans (hHeld.2.2.2.2.2.2.2.1)), ((cell_far (p := ⟨gb2, _, none⟩) NB0_2.out _).trans (hHeld.2.2.2.2.2.2.2.2.1)), ((cell_far (p := ⟨gb2, _, none⟩) NB0_2.out _).trans (hHeld.2.2.2.2.2.2.2.2.2.1)), ((cell_far (p := ⟨gb2, _, none⟩) NB0_2.out _).trans (hHeld.2.2.2.2.2.2.2.2.2.2.1)), ((cell_far (p := ⟨gb2, _, none⟩) (by first | exact Nat.ne_of_lt (Nat.lt_of_lt_of_le aq70 GW2.out) | (rw [add_block]; exact Nat.ne_of_lt (Nat.lt_of_lt_of_le aq70 GW2.out)) | (show (Addr.add _ _).block ≠ _; rw [add_block]; exact Nat.ne_of_lt (Nat.lt_of_lt_of_le aq70 GW2.out)) | (dsimp only; exact Nat.ne_of_lt (Nat.lt_of_lt_of_le aq70 GW2.out))) _).trans (hHeld.2.2.2.2.2.2.2.2.2.2.2.1)), ((cell_far (p := ⟨gb2, _, none⟩) (by first | exact Nat.ne_of_lt (Nat.lt_of_lt_of_le aq71 GW2.out) | (rw [add_block]; exact Nat.ne_of_lt (Nat.lt_of_lt_of_le aq71 GW2.out)) | (show (Addr.add _ _).block ≠ _; rw [add_block]; exact Nat.ne_of_lt (Nat.lt_of_lt_of_le aq71 GW2.out)) | (dsimp only; exact Nat.ne_of_lt (Nat.lt_of_lt_of_le aq71 GW2.out))) _).trans (hHeld.2.2.2.2.2.2.2.2.2.2.2.2))⟩ (fun hHeld => ?_)
        clear hK K
        refine done_ (done_of HT_.out (by kernel_rfl)) ?_
        try go_wp2
        go_meet
        case rel => exact ⟨_, (x5_27), ((rd_T57 l1_0 t520).f1), H', ⟨aq84⟩, ⟨by (with_reducible repeat (first | apply Kd.R_alloc | apply Kd.R_drewN | apply Kd.R_drew)); exact Kd.R_mono (Kd.R_far (p := ⟨gb2, 4, none⟩) (Kd.R_mono HO_5.out (fun k_ hk => (⟨hk, hk.2⟩ : _ ∧ k_ ≠ gb2))) (fun _ hk => hk.2) (.int .i64 ((rd_T57 l1_0 t520).f1))) (fun _ hk => ⟨hk.1.1, hk.1.2⟩)⟩, ⟨aq25⟩, ⟨aq30⟩, ⟨by (with_reducible repeat (first | refine blk_drewN ?_ _ | refine blk_drew ?_ | refine blk_alloc ?_ _)); refine blk_put (cs := #[.int .i64 a0_0, .int .i64 a0_1, .int .i64 a0_2, .int .i64 x509003_27, .int .i64 a0_4, .int .i64 a0_5, .int .i64 a0_6]) ?_ 4 _ rfl; (with_reducible repeat (first | refine blk_drewN ?_ _ | refine blk_drew ?_ | refine blk_alloc ?_ _)); exact BK2.out⟩, ⟨aq9⟩⟩
       case rest =>
        clear HC64
        obtain ⟨kq, x5_63, x509004_63, HA, HJ63, HO_5, BK0, BK1, BK2, HB⟩ := hcut
        cases kq with
        | zero => exact absurd HA.out (by simp [palingref22_one.j3])
        | succ kj63 =>
         have H := HA.out
         clear HA
         simp only [palingref22_one.j3] at H
         obtain ⟨t522, A88, H⟩ := bS_ H
         by_cases c89 : t522 < 0
         ·rw [if_pos c89] at H
          have c89b0 : decide (t522 < 0) = true := decide_eq_true c89
          clear c89
          by_cases c90 : x5_63.length < 2513169434916
          rotate_left
          ·rw [if_neg c90] at H
           exact absurd H (by simp)
          rw [if_pos c90] at H
          have LMc90 := Aside0.mk c90
          clear c90
          obtain ⟨y523, hy_⟩ : ∃ y_ : List (S48), y_ = (x5_63 ++ [(⟨a0_0, a0_1, a0_2, x509003_27, x509004_63, a0_5, a0_6⟩ : S48)]) := ⟨_, rfl⟩
          replace H : (some y523) = some r := aq1
          have Ny523 := Aside0.mk hy_
          clear hy_
          obtain rfl := Option.some.inj H
          have hnb91 := NB0_1.out
          have hnc91 := NB1_0.out
          have hnb92 := NB0_2.out
          have hnc92 := NB2_0.out
          obtain ⟨hcz93_0, hcz93_1, hcz93_2, hcz93_3, hcz93_4, hcz93_5, hcz93_6, hfz93_0, hfz93_1, hfz93_2, hfz93_3, hfz93_4, hfz93_5, hfz93_6⟩ := czf7 BK0.out
          go_wp2_with (first | ((with_reducible refine gate_callee (f := 36) rfl ?_); refine goesL_ (some 89) rfl rfl Tryd.func36 (by kernel_rfl) rfl #[.agg #[.int .i64 a0_0, .int .i64 a0_1, .int .i64 a0_2, .int .i64 a0_3, .int .i64 a0_4, .int .i64 a0_5, .int .i64 a0_6]] rfl aq4 ?_; (with_reducible refine (palingref11_Def.calls kj63 a0_0 a0_1 a0_2 a0_3 a0_4 a0_5 a0_6 t522 _ A88.out).mono ?_); rintro e w94 ⟨rfl, hb⟩; refine ⟨_, rfl, ?_⟩; replace HO_5 := Aside0.mk (Kd.R_below aq8 hb); replace BK0 := Aside0.mk (blk_below (g := gb0) (o := .cells #[.int .i64 a0_0, .int .i64 a0_1, .int .i64 a0_2, .int .i64 a0_3, .int .i64 a0_4, .int .i64 a0_5, .int .i64 a0_6] 48 (0, 0)) aq5 hb); replace BK1 := Aside0.mk (blk_below (g := gb1) (o := .cells #[.slice A1_0 l1_0.length c1_0, .slice A1_1 l1_1.length c1_1, .int .i64 a1_2, .int .i64 a1_3] 42 (0, 0)) aq16 hb); replace BK2 := Aside0.mk (blk_below (g := gb2) (o := .cells #[.int .i64 a0_0, .int .i64 a0_1, .int .i64 a0_2, .int .i64 x509003_27, .int .i64 x509004_63, .int .i64 a0_5, .int .i64 a0_6] 48 (0, 0)) aq20 hb); replace HB := Aside0.mk (below_step aq9 hb); (try clear hb); (try clear hb2); (try clear hk); (try clear hi); have hnb95 := NB2_1.out; have hnc95 := NB1_2.out; obtain ⟨hcz96_0, hcz96_1, hcz96_2, hcz96_3, hcz96_4, hcz96_5, hcz96_6, hfz96_0, hfz96_1, hfz96_2, hfz96_3, hfz96_4, hfz96_5, hfz96_6⟩ := czf7 BK2.out) | ((with_reducible refine gate_builtin (b := .append) (xs := #[.tmp 92, .tmp 94]) rfl ?_); at_builtin; refine Kd.R_append k48 (w0 := w) w.heap.size rfl (.tmp 92) (.tmp 94) 38 48 (.agg #[(.int .i64 0), (.int .i64 0), (.int .i64 0), (.int .i64 0), (.int .i64 0), (.int .i64 0), (.int .i64 0)]) 56 rfl Tryd.underlying38 info48 rfl (by decide) (by omega) u5 x5_63 (⟨a0_0, a0_1, a0_2, x509003_27, x509004_63, a0_5, a0_6⟩ : S48) [.int .i64 a0_0, .int .i64 a0_1, .int .i64 a0_2, .int .i64 x509003_27, .int .i64 x509004_63, .int .i64 a0_5, .int .i64 a0_6] (fun k_ => k_ ≠ gb0 ∧ k_ ≠ gb2) (fun _ => False) rfl rfl ?aP (fun _ hk => hk.elim) ?aF ?aO ?aB ?aS ?aL ?_; (case aP => exact k48_mkM _ _ _ (⟨a0_0, a0_1, a0_2, x509003_27, x509004_63, a0_5, a0_6⟩ : S48)); (case aB => exact aq9); (case aF => exact (fun k_ hk => ⟨Kd.freshB (g := gb0) (o := .cells #[.int .i64 a0_0, .int .i64 a0_1, .int .i64 a0_2, .int .i64 a0_3, .int .i64 a0_4, .int .i64 a0_5, .int .i64 a0_6] 48 (0, 0)) aq5 k_ hk, Kd.freshB (g := gb2) (o := .cells #[.int .i64 a0_0, .int .i64 a0_1, .int .i64 a0_2, .int .i64 x509003_27, .int .i64 x509004_63, .int .i64 a0_5, .int .i64 a0_6] 48 (0, 0)) aq20 k_ hk⟩)); (case aO => exact aq8); (case aS => exact (below_size aq9)); (case aL => have := LMc90.out; omega); intro v524 w97 ho hb hg hat; rw [← Ny523.out] at ho; replace BK0 := Aside0.mk (blk_grown (g := gb0) (o := .cells #[.int .i64 a0_0, .int .i64 a0_1, .int .i64 a0_2, .int .i64 a0_3, .int .i64 a0_4, .int .i64 a0_5, .int .i64 a0_6] 48 (0, 0)) aq5 hg (Kd.R_away HO_5.out (fun _ hk => hk.1))); replace BK1 := Aside0.mk (blk_grown (g := gb1) (o := .cells #[.slice A1_0 l1_0.length c1_0, .slice A1_1 l1_1.length c1_1, .int .i64 a1_2, .int .i64 a1_3] 42 (0, 0)) aq16 hg (Kd.R_ne HO_5.out BK1.out (by decide))); replace BK2 := Aside0.mk (blk_grown (g := gb2) (o := .cells #[.int .i64 a0_0, .int .i64 a0_1, .int .i64 a0_2, .int .i64 x509003_27, .int .i64 x509004_63, .int .i64 a0_5, .int .i64 a0_6] 48 (0, 0)) aq20 hg (Kd.R_away HO_5.out (fun _ hk => hk.2))); replace HB := Aside0.mk (hb); have HO525 := Aside0.mk (ho); clear HO_5; clear ho hb hg hat))
          go_ret
          exact ⟨_, aq13, by (with_reducible repeat (first | apply Kd.R_alloc | apply Kd.R_drewN | apply Kd.R_drew)); exact Kd.R_mono HO525.out (fun _ hk => trivial), aq9⟩
         rw [if_neg c89] at H
         have c89b0 : decide (t522 < 0) = false := decide_eq_false c89
         clear c89
         obtain ⟨t526, A98, H⟩ := bS_ H
         by_cases c99 : t526 < 0
         ·rw [if_pos c99] at H
          have c99b0 : decide (t526 < 0) = true := decide_eq_true c99
          clear c99
          obtain ⟨t527, A100, H⟩ := bS_ H
          by_cases c101 : 0 ≤ t527
          rotate_left
          ·rw [if_neg c101] at H
           exact absurd H (by simp)
          rw [if_pos c101] at H
          have c101b0 : decide (0 ≤ t527) = true := decide_eq_true c101
          clear c101
          by_cases c102 : t527 < (l1_0.length : Int)
          rotate_left
          ·rw [if_neg c102] at H
           exact absurd H (by simp)
          rw [if_pos c102] at H
          have c102b0 : decide (t527 < (l1_0.length : Int)) = true := decide_eq_true c102
          clear c102
          by_cases c103 : x5_63.length < 2513169434916
          rotate_left
          ·rw [if_neg c103] at H
           exact absurd H (by simp)
          rw [if_pos c103] at H
          have LMc103 := Aside0.mk c103
          clear c103
          obtain ⟨y529, hy_⟩ : ∃ y_ : List (S48), y_ = (x5_63 ++ [(⟨a0_0, a0_1, (rd_T57 l1_0 t527).f1, x509003_27, x509004_63, a0_5, a0_6⟩ : S48)]) := ⟨_, rfl⟩
          replace H : (some y529) = some r := aq1
          have Ny529 := Aside0.mk hy_
          clear hy_
          obtain rfl := Option.some.inj H
          have hnb104 := NB0_1.out
          have hnc104 := NB1_0.out
          have hnb105 := NB0_2.out
          have hnc105 := NB2_0.out
          obtain ⟨hcz106_0, hcz106_1, hcz106_2, hcz106_3, hcz106_4, hcz106_5, hcz106_6, hfz106_0, hfz106_1, hfz106_2, hfz106_3, hfz106_4, hfz106_5, hfz106_6⟩ := czf7 BK0.out
          try go_wp2_with (first | ((with_reducible refine gate_callee (f := 36) rfl ?_); refine goesL_ (some 89) rfl rfl Tryd.func36 (by kernel_rfl) rfl #[.agg #[.int .i64 a0_0, .int .i64 a0_1, .int .i64 a0_2, .int .i64 a0_3, .int .i64 a0_4, .int .i64 a0_5, .int .i64 a0_6]] rfl aq4 ?_; (with_reducible refine (palingref11_Def.calls kj63 a0_0 a0_1 a0_2 a0_3 a0_4 a0_5 a0_6 t522 _ A88.out).mono ?_); rintro e w107 ⟨rfl, hb⟩; refine ⟨_, rfl, ?_⟩; replace HO_5 := Aside0.mk (Kd.R_below aq8 hb); replace BK0 := Aside0.mk (blk_below (g := gb0) (o := .cells #[.int .i64 a0_0, .int .i64 a0_1, .int .i64 a0_2, .int .i64 a0_3, .int .i64 a0_4, .int .i64 a0_5, .int .i64 a0_6] 48 (0, 0)) aq5 hb); replace BK1 := Aside0.mk (blk_below (g := gb1) (o := .cells #[.slice A1_0 l1_0.length c1_0, .slice A1_1 l1_1.length c1_1, .int .i64 a1_2, .int .i64 a1_3] 42 (0, 0)) aq16 hb); replace BK2 := Aside0.mk (blk_below (g := gb2) (o := .cells #[.int .i64 a0_0, .int .i64 a0_1, .int .i64 a0_2, .int .i64 x509003_27, .int .i64 x509004_63, .int .i64 a0_5, .int .i64 a0_6] 48 (0, 0)) aq20 hb); replace HB := Aside0.mk (below_step aq9 hb); (try clear hb); (try clear hb2); (try clear hk); (try clear hi); have hnb108 := NB1_2.out; have hnc108 := NB2_1.out; obtain ⟨hcz109_0, hcz109_1, hcz109_2, hcz109_3, hfz109_0, hfz109_1, hfz109_2, hfz109_3⟩ := czf4 BK1.out) | ((with_reducible refine gate_callee (f := 46) rfl ?_); refine goesL_ (some 98) rfl rfl Tryd.func46 (by kernel_rfl) rfl #[.agg #[.slice A1_0 l1_0.length c1_0, .slice A1_1 l1_1.length c1_1, .int .i64 a1_2, .int .i64 a1_3], .int .i64 t522] rfl aq4 ?_; (with_reducible refine (palingref22_word.calls kj63 _ _ l1_0 _ _ l1_1 a1_2 a1_3 t522 t526 _ ?side1 ?side2 ?side3 ?side4 A98.out).mono ?_); (case side1 => repeat (first | exact (Kd.C_below HR1_0.out HB.out) | (with_reducible refine Kd.C_alloc ?_ _) | (with_reducible refine Kd.C_drewN ?_ _) | (with_reducible refine Kd.C_drew ?_))); (case side2 => exact HC1_0.out); (case side3 => repeat (first | exact (Kd.C_below HR1_1.out HB.out) | (with_reducible refine Kd.C_alloc ?_ _) | (with_reducible refine Kd.C_drewN ?_ _) | (with_reducible refine Kd.C_drew ?_))); (case side4 => exact HC1_1.out); rintro e w110 ⟨rfl, hb⟩; refine ⟨_, rfl, ?_⟩; replace HO_5 := Aside0.mk (Kd.R_below aq8 hb); replace BK0 := Aside0.mk (blk_below (g := gb0) (o := .cells #[.int .i64 a0_0, .int .i64 a0_1, .int .i64 a0_2, .int .i64 a0_3, .int .i64 a0_4, .int .i64 a0_5, .int .i64 a0_6] 48 (0, 0)) aq5 hb); replace BK1 := Aside0.mk (blk_below (g := gb1) (o := .cells #[.slice A1_0 l1_0.length c1_0, .slice A1_1 l1_1.length c1_1, .int .i64 a1_2, .int .i64 a1_3] 42 (0, 0)) aq16 hb); replace BK2 := Aside0.mk (blk_below (g := gb2) (o := .cells #[.int .i64 a0_0, .int .i64 a0_1, .int .i64 a0_2, .int .i64 x509003_27, .int .i64 x509004_63, .int .i64 a0_5, .int .i64 a0_6] 48 (0, 0)) aq20 hb); replace HB := Aside0.mk (below_step aq9 hb); (try clear hb); (try clear hb2); (try clear hk); (try clear hi)))
          replace HO_5 := Aside0.mk (Kd.R_drew HO_5.out)
          replace BK0 := Aside0.mk (blk_drew BK0.out)
          replace BK1 := Aside0.mk (blk_drew BK1.out)
          replace BK2 := Aside0.mk (blk_drew BK2.out)
          replace HB := Aside0.mk (below_drew1 HB.out)
          have p528 : 0 ≤ (t527 : Int) := of_decide_eq_true aq2
          have q528 : t527 < (l1_0.length : Int) := of_decide_eq_true aq2
          obtain ⟨ad528, e528, hx528_0, hx528_1⟩ := at_T57 HR1_0.out t527 p528 q528
          have hw528_1 := hx528_1
          have hw528_0 := hx528_0
          cases e528
          replace hx528_0 := (HB.out.cell (World.block_lt_of_cell? w _ hx528_0)).trans hx528_0
          replace hx528_1 := (HB.out.cell (World.block_lt_of_cell? w _ hx528_1)).trans hx528_1
          replace p528 := eq_true p528
          replace q528 := eq_true q528
          refine start_ (n := 11) (S := fun w' => w'.cell? ⟨gb1, 0, none⟩ = some (.slice (some ad528) l1_0.length c1_0) ∧ w'.cell? ⟨gb1, 1, none⟩ = some (.slice A1_1 l1_1.length c1_1) ∧ w'.cell? ⟨gb1, 2, none⟩ = some (.int .i64 a1_2) ∧ w'.cell? ⟨gb1, 3, none⟩ = some (.int .i64 a1_3) ∧ w'.cell? (ad528.add ((t527).toNat * 2)) = some (.int .i64 ((rd_T57 l1_0 t527).f0)) ∧ w'.cell? ⟨(ad528.add ((t527).toNat * 2)).block, (ad528.add ((t527).toNat * 2)).off + 1, none⟩ = some (.int .i64 ((rd_T57 l1_0 t527).f1))) (ds := []) #[false, false, false, false, false, false, false, false, false, false, false] (by kernel_rfl) rfl rfl ⟨(blk_cell BK1.out 0).trans rfl, (blk_cell BK1.out 1).trans rfl, (blk_cell BK1.out 2).trans rfl, (blk_cell BK1.out 3).trans rfl, ((HB.out.cell (World.block_lt_of_cell? w _ hw528_0)).trans hw528_0), ((HB.out.cell (World.block_lt_of_cell? w _ hw528_1)).trans hw528_1)⟩ (fun hHeld => ?_); refine with_tabW palingref22_one.tab21 palingref22_one.bits21 (fun HT_ HW_ => ?_)
          generalize w110.drew = w111 at HO_5 BK0 BK1 BK2 HB hx528_0 hx528_1 hHeld ⊢
          refine pz (i := 0) (N := some 101) (bz 11 1) rfl rfl ?_
          refine pz (i := 2) (N := some 103) (bz 11 5) rfl rfl ?_
          refine pz (i := 4) (N := some 105) (bz 11 21) rfl rfl ?_
          refine tz6 (i := 1) (N := some 102) (bz 11 23) rfl rfl hHeld ?_
          refine tz6 (i := 3) (N := some 104) (bz 11 31) rfl rfl hHeld ?_
          refine one_ (i := 5) (N := some 106) #[true, true, true, true, true, true, false, false, false, false, false] rfl rfl (one_of HT_.out (by kernel_rfl)) (by decide) (fun K hK => ?_)
          refine goes_ Tryd.func26 (by kernel_rfl) rfl #[.slice (some ad528) l1_0.length c1_0, .int .i64 t522] (by rfl) rfl rfl aq4 ?_
          with_reducible refine (palingref22_find.calls kj63 _ _ l1_0 t522 t527 _ ?side1 ?side2 A100.out).mono ?_
          (case side1 => repeat (first | exact (Kd.C_below HR1_0.out HB.out) | (with_reducible refine Kd.C_alloc ?_ _) | (with_reducible refine Kd.C_drewN ?_ _) | (with_reducible refine Kd.C_drew ?_)))
          (case side2 => exact HC1_0.out)
          rintro e w' ⟨rfl, ⟨nd, rfl⟩⟩
          refine ⟨_, rfl, ?_⟩
          refine hK.out _ _ ⟨(blk_cell BK1.out 0).trans rfl, (blk_cell BK1.out 1).trans rfl, (blk_cell BK1.out 2).trans rfl, (blk_cell BK1.out 3).trans rfl, ((HB.out.cell (World.block_lt_of_cell? w _ hw528_0)).trans hw528_0), ((HB.out.cell (World.block_lt_of_cell? w _ hw528_1)).trans hw528_1)⟩ (fun hHeld => ?_)
          clear hK K
          refine norm_ (a' := ?_) ?_ ?_
          rotate_left
          ·show Act.put _ (some 106) _ = _
           simp only [Act.put, List.setIfInBounds_toArray, List.set_cons_zero, List.set_cons_succ, i64_w, i32_w]
           rfl
          refine pz (i := 6) (N := some 107) (bz 11 127) rfl rfl ?_
          refine pz (i := 7) (N := some 108) (bz 11 255) rfl rfl ?_
          refine tz6 (i := 8) (N := some 109) (bz 11 511) rfl rfl hHeld ?_
          refine pz (i := 9) (N := some 110) (bz 11 1023) rfl rfl ?_
          refine one_ (i := 10) (N := none) #[true, true, true, true, true, true, true, true, true, true, true] rfl rfl (one_of HT_.out (by kernel_rfl)) (by decide) (fun K hK => ?_)
          have hs112 : w111.cell? ⟨gb2, 2, none⟩ = some (.int .i64 a0_2) := (blk_cell BK2.out 2).trans rfl
          have hfs112 := blk_frozen BK2.out 2
          have hns112_0 := NB0_2.out
          have hns112_1 := NB1_2.out
          have hms112_0 := NB2_0.out
          have hms112_1 := NB2_1.out
          refine skip_ (w1 := ?_) (by rfl) rfl ?_ ?_
          rotate_left
          ·go_simp
           rfl
          refine hK.out _ _ ⟨((cell_far (p := ⟨gb2, _, none⟩) NB1_2.out _).trans (hHeld.1)), ((cell_far (p := ⟨gb2, _, none⟩) NB1_2.out _).trans (hHeld.2.1)), ((cell_far (p := ⟨gb2, _, none⟩) NB1_2.out _).trans (hHeld.2.2.1)), ((cell_far (p := ⟨gb2, _, none⟩) NB1_2.out _).trans (hHeld.2.2.2.1)), ((cell_far (p := ⟨gb2, _, none⟩) (by first | exact Nat.ne_of_lt (Nat.lt_of_lt_of_le aq72 GW2.out) | (rw [add_block]; exact Nat.ne_of_lt (Nat.lt_of_lt_of_le aq72 GW2.out)) | (show (Addr.add _ _).block ≠ _; rw [add_block]; exact Nat.ne_of_lt (Nat.lt_of_lt_of_le aq72 GW2.out)) | (dsimp only; exact Nat.ne_of_lt (Nat.lt_of_lt_of_le aq72 GW2.out))) _).trans (hHeld.2.2.2.2.1)), ((cell_far (p := ⟨gb2, _, none⟩) (by first | exact Nat.ne_of_lt (Nat.lt_of_lt_of_le aq73 GW2.out) | (rw [add_block]; exact Nat.ne_of_lt (Nat.lt_of_lt_of_le aq73 GW2.out)) | (show (Addr.add _ _).block ≠ _; rw [add_block]; exact Nat.ne_of_lt (Nat.lt_of_lt_of_le aq73 GW2.out)) | (dsimp only; exact Nat.ne_of_lt (Nat.lt_of_lt_of_le aq73 GW2.out))) _).trans (hHeld.2.2.2.2.2))⟩ (fun hHeld => ?_)
          clear hK K
          refine done_ (done_of HT_.out (by kernel_rfl)) ?_
          obtain ⟨hcz113_0, hcz113_1, hcz113_2, hcz113_3, hcz113_4, hcz113_5, hcz113_6, hfz113_0, hfz113_1, hfz113_2, hfz113_3, hfz113_4, hfz113_5, hfz113_6⟩ := czf7 BK2.out
          try go_wp2_with (first | ((with_reducible refine gate_builtin (b := .append) (xs := #[.tmp 111, .tmp 113]) rfl ?_); at_builtin; refine Kd.R_append k48 (w0 := w) w.heap.size rfl (.tmp 111) (.tmp 113) 38 48 (.agg #[(.int .i64 0), (.int .i64 0), (.int .i64 0), (.int .i64 0), (.int .i64 0), (.int .i64 0), (.int .i64 0)]) 56 rfl Tryd.underlying38 info48 rfl (by decide) (by omega) u5 x5_63 (⟨a0_0, a0_1, (rd_T57 l1_0 t527).f1, x509003_27, x509004_63, a0_5, a0_6⟩ : S48) [.int .i64 a0_0, .int .i64 a0_1, .int .i64 ((rd_T57 l1_0 t527).f1), .int .i64 x509003_27, .int .i64 x509004_63, .int .i64 a0_5, .int .i64 a0_6] (fun k_ => k_ ≠ gb0 ∧ k_ ≠ gb2) (fun _ => False) rfl aq89 ?aP (fun _ hk => hk.elim) ?aF ?aO ?aB ?aS ?aL ?_; (case aP => exact k48_mkM _ _ _ (⟨a0_0, a0_1, (rd_T57 l1_0 t527).f1, x509003_27, x509004_63, a0_5, a0_6⟩ : S48)); (case aB => exact aq9); (case aF => exact (fun k_ hk => ⟨Kd.freshB (g := gb0) (o := .cells #[.int .i64 a0_0, .int .i64 a0_1, .int .i64 a0_2, .int .i64 a0_3, .int .i64 a0_4, .int .i64 a0_5, .int .i64 a0_6] 48 (0, 0)) aq25 k_ hk, Kd.freshB (g := gb2) (o := .cells #[.int .i64 a0_0, .int .i64 a0_1, .int .i64 ((rd_T57 l1_0 t527).f1), .int .i64 x509003_27, .int .i64 x509004_63, .int .i64 a0_5, .int .i64 a0_6] 48 (0, 0)) aq29 k_ hk⟩)); (case aO => exact (by (with_reducible repeat (first | apply Kd.R_alloc | apply Kd.R_drewN | apply Kd.R_drew)); exact Kd.R_mono (Kd.R_far (p := ⟨gb2, 2, none⟩) (Kd.R_mono HO_5.out (fun k_ hk => (⟨hk, hk.2⟩ : _ ∧ k_ ≠ gb2))) (fun _ hk => hk.2) (.int .i64 ((rd_T57 l1_0 t527).f1))) (fun _ hk => ⟨hk.1.1, hk.1.2⟩))); (case aS => exact (below_size aq9)); (case aL => have := LMc103.out; omega); intro v530 w114 ho hb hg hat; rw [← Ny529.out] at ho; replace BK0 := Aside0.mk (blk_grown (g := gb0) (o := .cells #[.int .i64 a0_0, .int .i64 a0_1, .int .i64 a0_2, .int .i64 a0_3, .int .i64 a0_4, .int .i64 a0_5, .int .i64 a0_6] 48 (0, 0)) aq25 hg (Kd.R_away HO_5.out (fun _ hk => hk.1))); replace BK1 := Aside0.mk (blk_grown (g := gb1) (o := .cells #[.slice (some ad528) l1_0.length c1_0, .slice A1_1 l1_1.length c1_1, .int .i64 a1_2, .int .i64 a1_3] 42 (0, 0)) aq30 hg (Kd.R_ne HO_5.out BK1.out (by decide))); replace BK2 := Aside0.mk (blk_grown (g := gb2) (o := .cells #[.int .i64 a0_0, .int .i64 a0_1, .int .i64 ((rd_T57 l1_0 t527).f1), .int .i64 x509003_27, .int .i64 x509004_63, .int .i64 a0_5, .int .i64 a0_6] 48 (0, 0)) aq29 hg (Kd.R_away HO_5.out (fun _ hk => hk.2))); replace HB := Aside0.mk (hb); have HO531 := Aside0.mk (ho); clear HO_5; clear ho hb hg hat))
          go_ret
          exact ⟨_, aq13, by (with_reducible repeat (first | apply Kd.R_alloc | apply Kd.R_drewN | apply Kd.R_drew)); exact Kd.R_mono HO531.out (fun _ hk => trivial), aq9⟩
         rw [if_neg c99] at H
         have c99b0 : decide (t526 < 0) = false := decide_eq_false c99
         clear c99
         by_cases c115 : a0_0 = 3
         rotate_left
         ·rw [if_neg c115] at H
          have c115b0 : (a0_0 == 3) = false := beq_eq_false_iff_ne.mpr c115
          have c115b1 : (a0_0 != 3) = true := bne_iff_ne.mpr c115
          by_cases c132 : x5_63.length < 2513169434916
          rotate_left
          ·rw [if_neg c132] at H
           exact absurd H (by simp)
          rw [if_pos c132] at H
          have LMc132 := Aside0.mk c132
          clear c132
          obtain ⟨y541, hy_⟩ : ∃ y_ : List (S48), y_ = (x5_63 ++ [(⟨a0_0, a0_1, 15, x509003_27, x509004_63, a0_5, a0_6⟩ : S48)]) := ⟨_, rfl⟩
          replace H : (if y541.length < 2513169434916 then (some (y541 ++ [(⟨5, 0, 0, (-1), 15, t526, 0⟩ : S48)])) else (none)) = some r := aq1
          have Ny541 := Aside0.mk hy_
          clear hy_
          by_cases c133 : y541.length < 2513169434916
          rotate_left
          ·rw [if_neg c133] at H
           exact absurd H (by simp)
          rw [if_pos c133] at H
          have LMc133 := Aside0.mk c133
          clear c133
          obtain ⟨y544, hy_⟩ : ∃ y_ : List (S48), y_ = (y541 ++ [(⟨5, 0, 0, (-1), 15, t526, 0⟩ : S48)]) := ⟨_, rfl⟩
          replace H : (some y544) = some r := aq1
          have Ny544 := Aside0.mk hy_
          clear hy_
          obtain rfl := Option.some.inj H
          have hnb134 := NB0_1.out
          have hnc134 := NB1_0.out
          have hnb135 := NB0_2.out
          have hnc135 := NB2_0.out
          obtain ⟨hcz136_0, hcz136_1, hcz136_2, hcz136_3, hcz136_4, hcz136_5, hcz136_6, hfz136_0, hfz136_1, hfz136_2, hfz136_3, hfz136_4, hfz136_5, hfz136_6⟩ := czf7 BK0.out
          go_wp2_with (first | ((with_reducible refine gate_callee (f := 36) rfl ?_); refine goesL_ (some 89) rfl rfl Tryd.func36 (by kernel_rfl) rfl #[.agg #[.int .i64 a0_0, .int .i64 a0_1, .int .i64 a0_2, .int .i64 a0_3, .int .i64 a0_4, .int .i64 a0_5, .int .i64 a0_6]] rfl aq4 ?_; (with_reducible refine (palingref11_Def.calls kj63 a0_0 a0_1 a0_2 a0_3 a0_4 a0_5 a0_6 t522 _ A88.out).mono ?_); rintro e w137 ⟨rfl, hb⟩; refine ⟨_, rfl, ?_⟩; replace HO_5 := Aside0.mk (Kd.R_below aq8 hb); replace BK0 := Aside0.mk (blk_below (g := gb0) (o := .cells #[.int .i64 a0_0, .int .i64 a0_1, .int .i64 a0_2, .int .i64 a0_3, .int .i64 a0_4, .int .i64 a0_5, .int .i64 a0_6] 48 (0, 0)) aq5 hb); replace BK1 := Aside0.mk (blk_below (g := gb1) (o := .cells #[.slice A1_0 l1_0.length c1_0, .slice A1_1 l1_1.length c1_1, .int .i64 a1_2, .int .i64 a1_3] 42 (0, 0)) aq16 hb); replace BK2 := Aside0.mk (blk_below (g := gb2) (o := .cells #[.int .i64 a0_0, .int .i64 a0_1, .int .i64 a0_2, .int .i64 x509003_27, .int .i64 x509004_63, .int .i64 a0_5, .int .i64 a0_6] 48 (0, 0)) aq20 hb); replace HB := Aside0.mk (below_step aq9 hb); (try clear hb); (try clear hb2); (try clear hk); (try clear hi); have hnb138 := NB1_2.out; have hnc138 := NB2_1.out; obtain ⟨hcz139_0, hcz139_1, hcz139_2, hcz139_3, hfz139_0, hfz139_1, hfz139_2, hfz139_3⟩ := czf4 BK1.out) | ((with_reducible refine gate_callee (f := 46) rfl ?_); refine goesL_ (some 98) rfl rfl Tryd.func46 (by kernel_rfl) rfl #[.agg #[.slice A1_0 l1_0.length c1_0, .slice A1_1 l1_1.length c1_1, .int .i64 a1_2, .int .i64 a1_3], .int .i64 t522] rfl aq4 ?_; (with_reducible refine (palingref22_word.calls kj63 _ _ l1_0 _ _ l1_1 a1_2 a1_3 t522 t526 _ ?side1 ?side2 ?side3 ?side4 A98.out).mono ?_); (case side1 => repeat (first | exact (Kd.C_below HR1_0.out HB.out) | (with_reducible refine Kd.C_alloc ?_ _) | (with_reducible refine Kd.C_drewN ?_ _) | (with_reducible refine Kd.C_drew ?_))); (case side2 => exact HC1_0.out); (case side3 => repeat (first | exact (Kd.C_below HR1_1.out HB.out) | (with_reducible refine Kd.C_alloc ?_ _) | (with_reducible refine Kd.C_drewN ?_ _) | (with_reducible refine Kd.C_drew ?_))); (case side4 => exact HC1_1.out); rintro e w140 ⟨rfl, hb⟩; refine ⟨_, rfl, ?_⟩; replace HO_5 := Aside0.mk (Kd.R_below aq8 hb); replace BK0 := Aside0.mk (blk_below (g := gb0) (o := .cells #[.int .i64 a0_0, .int .i64 a0_1, .int .i64 a0_2, .int .i64 a0_3, .int .i64 a0_4, .int .i64 a0_5, .int .i64 a0_6] 48 (0, 0)) aq5 hb); replace BK1 := Aside0.mk (blk_below (g := gb1) (o := .cells #[.slice A1_0 l1_0.length c1_0, .slice A1_1 l1_1.length c1_1, .int .i64 a1_2, .int .i64 a1_3] 42 (0, 0)) aq16 hb); replace BK2 := Aside0.mk (blk_below (g := gb2) (o := .cells #[.int .i64 a0_0, .int .i64 a0_1, .int .i64 a0_2, .int .i64 x509003_27, .int .i64 x509004_63, .int .i64 a0_5, .int .i64 a0_6] 48 (0, 0)) aq20 hb); replace HB := Aside0.mk (below_step aq9 hb); (try clear hb); (try clear hb2); (try clear hk); (try clear hi); obtain ⟨hcz141_0, hcz141_1, hcz141_2, hcz141_3, hcz141_4, hcz141_5, hcz141_6, hfz141_0, hfz141_1, hfz141_2, hfz141_3, hfz141_4, hfz141_5, hfz141_6⟩ := czf7 BK2.out; obtain ⟨hcz142_0, hcz142_1, hcz142_2, hcz142_3, hcz142_4, hcz142_5, hcz142_6, hfz142_0, hfz142_1, hfz142_2, hfz142_3, hfz142_4, hfz142_5, hfz142_6⟩ := czf7 BK0.out) | ((with_reducible refine gate_builtin (b := .append) (xs := #[.tmp 124, .tmp 126]) rfl ?_); at_builtin; refine Kd.R_append k48 (w0 := w) w.heap.size rfl (.tmp 124) (.tmp 126) 38 48 (.agg #[(.int .i64 0), (.int .i64 0), (.int .i64 0), (.int .i64 0), (.int .i64 0), (.int .i64 0), (.int .i64 0)]) 56 rfl Tryd.underlying38 info48 rfl (by decide) (by omega) u5 x5_63 (⟨a0_0, a0_1, 15, x509003_27, x509004_63, a0_5, a0_6⟩ : S48) [.int .i64 a0_0, .int .i64 a0_1, .int .i64 15, .int .i64 x509003_27, .int .i64 x509004_63, .int .i64 a0_5, .int .i64 a0_6] (fun k_ => k_ ≠ gb0 ∧ k_ ≠ gb2) (fun _ => False) rfl aq89 ?aP (fun _ hk => hk.elim) ?aF ?aO ?aB ?aS ?aL ?_; (case aP => exact k48_mkM _ _ _ (⟨a0_0, a0_1, 15, x509003_27, x509004_63, a0_5, a0_6⟩ : S48)); (case aB => exact aq9); (case aF => exact (fun k_ hk => ⟨Kd.freshB (g := gb0) (o := .cells #[.int .i64 a0_0, .int .i64 a0_1, .int .i64 a0_2, .int .i64 a0_3, .int .i64 a0_4, .int .i64 a0_5, .int .i64 a0_6] 48 (0, 0)) aq25 k_ hk, Kd.freshB (g := gb2) (o := .cells #[.int .i64 a0_0, .int .i64 a0_1, .int .i64 15, .int .i64 x509003_27, .int .i64 x509004_63, .int .i64 a0_5, .int .i64 a0_6] 48 (0, 0)) aq29 k_ hk⟩)); (case aO => exact (by (with_reducible repeat (first | apply Kd.R_alloc | apply Kd.R_drewN | apply Kd.R_drew)); exact Kd.R_mono (Kd.R_far (p := ⟨gb2, 2, none⟩) (Kd.R_mono HO_5.out (fun k_ hk => (⟨hk, hk.2⟩ : _ ∧ k_ ≠ gb2))) (fun _ hk => hk.2) (.int .i64 15)) (fun _ hk => ⟨hk.1.1, hk.1.2⟩))); (case aS => exact (below_size aq9)); (case aL => have := LMc132.out; omega); intro v542 w143 ho hb hg hat; rw [← Ny541.out] at ho; replace BK0 := Aside0.mk (blk_grown (g := gb0) (o := .cells #[.int .i64 a0_0, .int .i64 a0_1, .int .i64 a0_2, .int .i64 a0_3, .int .i64 a0_4, .int .i64 a0_5, .int .i64 a0_6] 48 (0, 0)) aq25 hg (Kd.R_away HO_5.out (fun _ hk => hk.1))); replace BK1 := Aside0.mk (blk_grown (g := gb1) (o := .cells #[.slice A1_0 l1_0.length c1_0, .slice A1_1 l1_1.length c1_1, .int .i64 a1_2, .int .i64 a1_3] 42 (0, 0)) aq30 hg (Kd.R_ne HO_5.out BK1.out (by decide))); replace BK2 := Aside0.mk (blk_grown (g := gb2) (o := .cells #[.int .i64 a0_0, .int .i64 a0_1, .int .i64 15, .int .i64 x509003_27, .int .i64 x509004_63, .int .i64 a0_5, .int .i64 a0_6] 48 (0, 0)) aq29 hg (Kd.R_away HO_5.out (fun _ hk => hk.2))); replace HB := Aside0.mk (hb); have HO543 := Aside0.mk (ho); clear HO_5; clear ho hb hg hat) | ((with_reducible refine gate_builtin (b := .append) (xs := #[.tmp 128, .tmp 131]) rfl ?_); at_builtin; refine Kd.R_append k48 (w0 := w) w.heap.size rfl (.tmp 128) (.tmp 131) 38 48 (.agg #[(.int .i64 0), (.int .i64 0), (.int .i64 0), (.int .i64 0), (.int .i64 0), (.int .i64 0), (.int .i64 0)]) 56 rfl Tryd.underlying38 info48 rfl (by decide) (by omega) v542 y541 (⟨5, 0, 0, (-1), 15, t526, 0⟩ : S48) [.int .i64 5, .int .i64 0, .int .i64 0, .int .i64 (-1), .int .i64 15, .int .i64 t526, .int .i64 0] (fun k_ => k_ ≠ gb0 ∧ k_ ≠ gb2) (fun _ => False) rfl rfl ?aP (fun _ hk => hk.elim) ?aF ?aO ?aB ?aS ?aL ?_; (case aP => exact k48_mkM _ _ _ (⟨5, 0, 0, (-1), 15, t526, 0⟩ : S48)); (case aB => exact aq9); (case aF => exact (fun k_ hk => ⟨Kd.freshB (g := gb0) (o := .cells #[.int .i64 a0_0, .int .i64 a0_1, .int .i64 a0_2, .int .i64 a0_3, .int .i64 a0_4, .int .i64 a0_5, .int .i64 a0_6] 48 (0, 0)) aq5 k_ hk, Kd.freshB (g := gb2) (o := .cells #[.int .i64 a0_0, .int .i64 a0_1, .int .i64 15, .int .i64 x509003_27, .int .i64 x509004_63, .int .i64 a0_5, .int .i64 a0_6] 48 (0, 0)) aq20 k_ hk⟩)); (case aO => exact (by (with_reducible repeat (first | apply Kd.R_alloc | apply Kd.R_drewN | apply Kd.R_drew)); exact HO543.out)); (case aS => exact (below_size aq9)); (case aL => have := LMc133.out; omega); intro v545 w144 ho hb hg hat; rw [← Ny544.out] at ho; replace BK0 := Aside0.mk (blk_grown (g := gb0) (o := .cells #[.int .i64 a0_0, .int .i64 a0_1, .int .i64 a0_2, .int .i64 a0_3, .int .i64 a0_4, .int .i64 a0_5, .int .i64 a0_6] 48 (0, 0)) aq5 hg (Kd.R_away HO543.out (fun _ hk => hk.1))); replace BK1 := Aside0.mk (blk_grown (g := gb1) (o := .cells #[.slice A1_0 l1_0.length c1_0, .slice A1_1 l1_1.length c1_1, .int .i64 a1_2, .int .i64 a1_3] 42 (0, 0)) aq16 hg (Kd.R_ne HO543.out BK1.out (by decide))); replace BK2 := Aside0.mk (blk_grown (g := gb2) (o := .cells #[.int .i64 a0_0, .int .i64 a0_1, .int .i64 15, .int .i64 x509003_27, .int .i64 x509004_63, .int .i64 a0_5, .int .i64 a0_6] 48 (0, 0)) aq20 hg (Kd.R_away HO543.out (fun _ hk => hk.2))); replace HB := Aside0.mk (hb); have HO546 := Aside0.mk (ho); clear HO543; clear ho hb hg hat))
          go_ret
          exact ⟨_, aq13, by (with_reducible repeat (first | apply Kd.R_alloc | apply Kd.R_drewN | apply Kd.R_drew)); exact Kd.R_mono HO546.out (fun _ hk => trivial), aq9⟩
         rw [if_pos c115] at H
         have c115b0 : (a0_0 == 3) = true := beq_iff_eq.mpr c115
         have c115b1 : (a0_0 != 3) = false := bne_eq_false_iff_eq.mpr c115
         clear c115
         by_cases c116 : x5_63.length < 2513169434916
         rotate_left
         ·rw [if_neg c116] at H
          exact absurd H (by simp)
         rw [if_pos c116] at H
         have LMc116 := Aside0.mk c116
         clear c116
         obtain ⟨y532, hy_⟩ : ∃ y_ : List (S48), y_ = (x5_63 ++ [(⟨4, 0, 15, (-1), 0, t526, 0⟩ : S48)]) := ⟨_, rfl⟩
         replace H : (if y532.length < 2513169434916 then ((some (y532 ++ [(⟨a0_0, a0_1, 15, x509003_27, x509004_63, a0_5, a0_6⟩ : S48)] : List (S48))).bind fun y535 => (if y535.length < 2513169434916 then (some (y535 ++ [(⟨5, 0, 0, (-1), 15, t526, 0⟩ : S48)])) else (none))) else (none)) = some r := aq1
         have Ny532 := Aside0.mk hy_
         clear hy_
         by_cases c117 : y532.length < 2513169434916
         rotate_left
         ·rw [if_neg c117] at H
          exact absurd H (by simp)
         rw [if_pos c117] at H
         have LMc117 := Aside0.mk c117
         clear c117
         obtain ⟨y535, hy_⟩ : ∃ y_ : List (S48), y_ = (y532 ++ [(⟨a0_0, a0_1, 15, x509003_27, x509004_63, a0_5, a0_6⟩ : S48)]) := ⟨_, rfl⟩
         replace H : (if y535.length < 2513169434916 then (some (y535 ++ [(⟨5, 0, 0, (-1), 15, t526, 0⟩ : S48)])) else (none)) = some r := aq1
         have Ny535 := Aside0.mk hy_
         clear hy_
         by_cases c118 : y535.length < 2513169434916
         rotate_left
         ·rw [if_neg c118] at H
          exact absurd H (by simp)
         rw [if_pos c118] at H
         have LMc118 := Aside0.mk c118
         clear c118
         obtain ⟨y538, hy_⟩ : ∃ y_ : List (S48), y_ = (y535 ++ [(⟨5, 0, 0, (-1), 15, t526, 0⟩ : S48)]) := ⟨_, rfl⟩
         replace H : (some y538) = some r := aq1
         have Ny538 := Aside0.mk hy_
         clear hy_
         obtain rfl := Option.some.inj H
         have hnb119 := NB0_1.out
         have hnc119 := NB1_0.out
         have hnb120 := NB0_2.out
         have hnc120 := NB2_0.out
         obtain ⟨hcz121_0, hcz121_1, hcz121_2, hcz121_3, hcz121_4, hcz121_5, hcz121_6, hfz121_0, hfz121_1, hfz121_2, hfz121_3, hfz121_4, hfz121_5, hfz121_6⟩ := czf7 BK0.out
         go_wp2_with (first | ((with_reducible refine gate_callee (f := 36) rfl ?_); refine goesL_ (some 89) rfl rfl Tryd.func36 (by kernel_rfl) rfl #[.agg #[.int .i64 a0_0, .int .i64 a0_1, .int .i64 a0_2, .int .i64 a0_3, .int .i64 a0_4, .int .i64 a0_5, .int .i64 a0_6]] rfl aq4 ?_; (with_reducible refine (palingref11_Def.calls kj63 a0_0 a0_1 a0_2 a0_3 a0_4 a0_5 a0_6 t522 _ A88.out).mono ?_); rintro e w122 ⟨rfl, hb⟩; refine ⟨_, rfl, ?_⟩; replace HO_5 := Aside0.mk (Kd.R_below aq8 hb); replace BK0 := Aside0.mk (blk_below (g := gb0) (o := .cells #[.int .i64 a0_0, .int .i64 a0_1, .int .i64 a0_2, .int .i64 a0_3, .int .i64 a0_4, .int .i64 a0_5, .int .i64 a0_6] 48 (0, 0)) aq5 hb); replace BK1 := Aside0.mk (blk_below (g := gb1) (o := .cells #[.slice A1_0 l1_0.length c1_0, .slice A1_1 l1_1.length c1_1, .int .i64 a1_2, .int .i64 a1_3] 42 (0, 0)) aq16 hb); replace BK2 := Aside0.mk (blk_below (g := gb2) (o := .cells #[.int .i64 a0_0, .int .i64 a0_1, .int .i64 a0_2, .int .i64 x509003_27, .int .i64 x509004_63, .int .i64 a0_5, .int .i64 a0_6] 48 (0, 0)) aq20 hb); replace HB := Aside0.mk (below_step aq9 hb); (try clear hb); (try clear hb2); (try clear hk); (try clear hi); have hnb123 := NB1_2.out; have hnc123 := NB2_1.out; obtain ⟨hcz124_0, hcz124_1, hcz124_2, hcz124_3, hfz124_0, hfz124_1, hfz124_2, hfz124_3⟩ := czf4 BK1.out) | ((with_reducible refine gate_callee (f := 46) rfl ?_); refine goesL_ (some 98) rfl rfl Tryd.func46 (by kernel_rfl) rfl #[.agg #[.slice A1_0 l1_0.length c1_0, .slice A1_1 l1_1.length c1_1, .int .i64 a1_2, .int .i64 a1_3], .int .i64 t522] rfl aq4 ?_; (with_reducible refine (palingref22_word.calls kj63 _ _ l1_0 _ _ l1_1 a1_2 a1_3 t522 t526 _ ?side1 ?side2 ?side3 ?side4 A98.out).mono ?_); (case side1 => repeat (first | exact (Kd.C_below HR1_0.out HB.out) | (with_reducible refine Kd.C_alloc ?_ _) | (with_reducible refine Kd.C_drewN ?_ _) | (with_reducible refine Kd.C_drew ?_))); (case side2 => exact HC1_0.out); (case side3 => repeat (first | exact (Kd.C_below HR1_1.out HB.out) | (with_reducible refine Kd.C_alloc ?_ _) | (with_reducible refine Kd.C_drewN ?_ _) | (with_reducible refine Kd.C_drew ?_))); (case side4 => exact HC1_1.out); rintro e w125 ⟨rfl, hb⟩; refine ⟨_, rfl, ?_⟩; replace HO_5 := Aside0.mk (Kd.R_below aq8 hb); replace BK0 := Aside0.mk (blk_below (g := gb0) (o := .cells #[.int .i64 a0_0, .int .i64 a0_1, .int .i64 a0_2, .int .i64 a0_3, .int .i64 a0_4, .int .i64 a0_5, .int .i64 a0_6] 48 (0, 0)) aq5 hb); replace BK1 := Aside0.mk (blk_below (g := gb1) (o := .cells #[.slice A1_0 l1_0.length c1_0, .slice A1_1 l1_1.length c1_1, .int .i64 a1_2, .int .i64 a1_3] 42 (0, 0)) aq16 hb); replace BK2 := Aside0.mk (blk_below (g := gb2) (o := .cells #[.int .i64 a0_0, .int .i64 a0_1, .int .i64 a0_2, .int .i64 x509003_27, .int .i64 x509004_63, .int .i64 a0_5, .int .i64 a0_6] 48 (0, 0)) aq20 hb); replace HB := Aside0.mk (below_step aq9 hb); (try clear hb); (try clear hb2); (try clear hk); (try clear hi); obtain ⟨hcz126_0, hcz126_1, hcz126_2, hcz126_3, hcz126_4, hcz126_5, hcz126_6, hfz126_0, hfz126_1, hfz126_2, hfz126_3, hfz126_4, hfz126_5, hfz126_6⟩ := czf7 BK2.out; obtain ⟨hcz127_0, hcz127_1, hcz127_2, hcz127_3, hcz127_4, hcz127_5, hcz127_6, hfz127_0, hfz127_1, hfz127_2, hfz127_3, hfz127_4, hfz127_5, hfz127_6⟩ := czf7 BK0.out) | ((with_reducible refine gate_builtin (b := .append) (xs := #[.tmp 119, .tmp 122]) rfl ?_); at_builtin; refine Kd.R_append k48 (w0 := w) w.heap.size rfl (.tmp 119) (.tmp 122) 38 48 (.agg #[(.int .i64 0), (.int .i64 0), (.int .i64 0), (.int .i64 0), (.int .i64 0), (.int .i64 0), (.int .i64 0)]) 56 rfl Tryd.underlying38 info48 rfl (by decide) (by omega) u5 x5_63 (⟨4, 0, 15, (-1), 0, t526, 0⟩ : S48) [.int .i64 4, .int .i64 0, .int .i64 15, .int .i64 (-1), .int .i64 0, .int .i64 t526, .int .i64 0] (fun k_ => k_ ≠ gb0 ∧ k_ ≠ gb2) (fun _ => False) rfl aq89 ?aP (fun _ hk => hk.elim) ?aF ?aO ?aB ?aS ?aL ?_; (case aP => exact k48_mkM _ _ _ (⟨4, 0, 15, (-1), 0, t526, 0⟩ : S48)); (case aB => exact aq9); (case aF => exact (fun k_ hk => ⟨Kd.freshB (g := gb0) (o := .cells #[.int .i64 a0_0, .int .i64 a0_1, .int .i64 a0_2, .int .i64 a0_3, .int .i64 a0_4, .int .i64 a0_5, .int .i64 a0_6] 48 (0, 0)) aq25 k_ hk, Kd.freshB (g := gb2) (o := .cells #[.int .i64 a0_0, .int .i64 a0_1, .int .i64 15, .int .i64 x509003_27, .int .i64 x509004_63, .int .i64 a0_5, .int .i64 a0_6] 48 (0, 0)) aq29 k_ hk⟩)); (case aO => exact (by (with_reducible repeat (first | apply Kd.R_alloc | apply Kd.R_drewN | apply Kd.R_drew)); exact Kd.R_mono (Kd.R_far (p := ⟨gb2, 2, none⟩) (Kd.R_mono HO_5.out (fun k_ hk => (⟨hk, hk.2⟩ : _ ∧ k_ ≠ gb2))) (fun _ hk => hk.2) (.int .i64 15)) (fun _ hk => ⟨hk.1.1, hk.1.2⟩))); (case aS => exact (below_size aq9)); (case aL => have := LMc116.out; omega); intro v533 w128 ho hb hg hat; rw [← Ny532.out] at ho; replace BK0 := Aside0.mk (blk_grown (g := gb0) (o := .cells #[.int .i64 a0_0, .int .i64 a0_1, .int .i64 a0_2, .int .i64 a0_3, .int .i64 a0_4, .int .i64 a0_5, .int .i64 a0_6] 48 (0, 0)) aq25 hg (Kd.R_away HO_5.out (fun _ hk => hk.1))); replace BK1 := Aside0.mk (blk_grown (g := gb1) (o := .cells #[.slice A1_0 l1_0.length c1_0, .slice A1_1 l1_1.length c1_1, .int .i64 a1_2, .int .i64 a1_3] 42 (0, 0)) aq30 hg (Kd.R_ne HO_5.out BK1.out (by decide))); replace BK2 := Aside0.mk (blk_grown (g := gb2) (o := .cells #[.int .i64 a0_0, .int .i64 a0_1, .int .i64 15, .int .i64 x509003_27, .int .i64 x509004_63, .int .i64 a0_5, .int .i64 a0_6] 48 (0, 0)) aq29 hg (Kd.R_away HO_5.out (fun _ hk => hk.2))); replace HB := Aside0.mk (hb); have HO534 := Aside0.mk (ho); clear HO_5; clear ho hb hg hat; obtain ⟨hcz129_0, hcz129_1, hcz129_2, hcz129_3, hcz129_4, hcz129_5, hcz129_6, hfz129_0, hfz129_1, hfz129_2, hfz129_3, hfz129_4, hfz129_5, hfz129_6⟩ := czf7 BK2.out) | ((with_reducible refine gate_builtin (b := .append) (xs := #[.tmp 124, .tmp 126]) rfl ?_); at_builtin; refine Kd.R_append k48 (w0 := w) w.heap.size rfl (.tmp 124) (.tmp 126) 38 48 (.agg #[(.int .i64 0), (.int .i64 0), (.int .i64 0), (.int .i64 0), (.int .i64 0), (.int .i64 0), (.int .i64 0)]) 56 rfl Tryd.underlying38 info48 rfl (by decide) (by omega) v533 y532 (⟨a0_0, a0_1, 15, x509003_27, x509004_63, a0_5, a0_6⟩ : S48) [.int .i64 a0_0, .int .i64 a0_1, .int .i64 15, .int .i64 x509003_27, .int .i64 x509004_63, .int .i64 a0_5, .int .i64 a0_6] (fun k_ => k_ ≠ gb0 ∧ k_ ≠ gb2) (fun _ => False) rfl rfl ?aP (fun _ hk => hk.elim) ?aF ?aO ?aB ?aS ?aL ?_; (case aP => exact k48_mkM _ _ _ (⟨a0_0, a0_1, 15, x509003_27, x509004_63, a0_5, a0_6⟩ : S48)); (case aB => exact aq9); (case aF => exact (fun k_ hk => ⟨Kd.freshB (g := gb0) (o := .cells #[.int .i64 a0_0, .int .i64 a0_1, .int .i64 a0_2, .int .i64 a0_3, .int .i64 a0_4, .int .i64 a0_5, .int .i64 a0_6] 48 (0, 0)) aq5 k_ hk, Kd.freshB (g := gb2) (o := .cells #[.int .i64 a0_0, .int .i64 a0_1, .int .i64 15, .int .i64 x509003_27, .int .i64 x509004_63, .int .i64 a0_5, .int .i64 a0_6] 48 (0, 0)) aq20 k_ hk⟩)); (case aO => exact (by (with_reducible repeat (first | apply Kd.R_alloc | apply Kd.R_drewN | apply Kd.R_drew)); exact HO534.out)); (case aS => exact (below_size aq9)); (case aL => have := LMc117.out; omega); intro v536 w130 ho hb hg hat; rw [← Ny535.out] at ho; replace BK0 := Aside0.mk (blk_grown (g := gb0) (o := .cells #[.int .i64 a0_0, .int .i64 a0_1, .int .i64 a0_2, .int .i64 a0_3, .int .i64 a0_4, .int .i64 a0_5, .int .i64 a0_6] 48 (0, 0)) aq5 hg (Kd.R_away HO534.out (fun _ hk => hk.1))); replace BK1 := Aside0.mk (blk_grown (g := gb1) (o := .cells #[.slice A1_0 l1_0.length c1_0, .slice A1_1 l1_1.length c1_1, .int .i64 a1_2, .int .i64 a1_3] 42 (0, 0)) aq16 hg (Kd.R_ne HO534.out BK1.out (by decide))); replace BK2 := Aside0.mk (blk_grown (g := gb2) (o := .cells #[.int .i64 a0_0, .int .i64 a0_1, .int .i64 15, .int .i64 x509003_27, .int .i64 x509004_63, .int .i64 a0_5, .int .i64 a0_6] 48 (0, 0)) aq20 hg (Kd.R_away HO534.out (fun _ hk => hk.2))); replace HB := Aside0.mk (hb); have HO537 := Aside0.mk (ho); clear HO534; clear ho hb hg hat) | ((with_reducible refine gate_builtin (b := .append) (xs := #[.tmp 128, .tmp 131]) rfl ?_); at_builtin; refine Kd.R_append k48 (w0 := w) w.heap.size rfl (.tmp 128) (.tmp 131) 38 48 (.agg #[(.int .i64 0), (.int .i64 0), (.int .i64 0), (.int .i64 0), (.int .i64 0), (.int .i64 0), (.int .i64 0)]) 56 rfl Tryd.underlying38 info48 rfl (by decide) (by omega) v536 y535 (⟨5, 0, 0, (-1), 15, t526, 0⟩ : S48) [.int .i64 5, .int .i64 0, .int .i64 0, .int .i64 (-1), .int .i64 15, .int .i64 t526, .int .i64 0] (fun k_ => k_ ≠ gb0 ∧ k_ ≠ gb2) (fun _ => False) rfl rfl ?aP (fun _ hk => hk.elim) ?aF ?aO ?aB ?aS ?aL ?_; (case aP => exact k48_mkM _ _ _ (⟨5, 0, 0, (-1), 15, t526, 0⟩ : S48)); (case aB => exact aq9); (case aF => exact (fun k_ hk => ⟨Kd.freshB (g := gb0) (o := .cells #[.int .i64 a0_0, .int .i64 a0_1, .int .i64 a0_2, .int .i64 a0_3, .int .i64 a0_4, .int .i64 a0_5, .int .i64 a0_6] 48 (0, 0)) aq5 k_ hk, Kd.freshB (g := gb2) (o := .cells #[.int .i64 a0_0, .int .i64 a0_1, .int .i64 15, .int .i64 x509003_27, .int .i64 x509004_63, .int .i64 a0_5, .int .i64 a0_6] 48 (0, 0)) aq20 k_ hk⟩)); (case aO => exact (by (with_reducible repeat (first | apply Kd.R_alloc | apply Kd.R_drewN | apply Kd.R_drew)); exact HO537.out)); (case aS => exact (below_size aq9)); (case aL => have := LMc118.out; omega); intro v539 w131 ho hb hg hat; rw [← Ny538.out] at ho; replace BK0 := Aside0.mk (blk_grown (g := gb0) (o := .cells #[.int .i64 a0_0, .int .i64 a0_1, .int .i64 a0_2, .int .i64 a0_3, .int .i64 a0_4, .int .i64 a0_5, .int .i64 a0_6] 48 (0, 0)) aq5 hg (Kd.R_away HO537.out (fun _ hk => hk.1))); replace BK1 := Aside0.mk (blk_grown (g := gb1) (o := .cells #[.slice A1_0 l1_0.length c1_0, .slice A1_1 l1_1.length c1_1, .int .i64 a1_2, .int .i64 a1_3] 42 (0, 0)) aq16 hg (Kd.R_ne HO537.out BK1.out (by decide))); replace BK2 := Aside0.mk (blk_grown (g := gb2) (o := .cells #[.int .i64 a0_0, .int .i64 a0_1, .int .i64 15, .int .i64 x509003_27, .int .i64 x509004_63, .int .i64 a0_5, .int .i64 a0_6] 48 (0, 0)) aq20 hg (Kd.R_away HO537.out (fun _ hk => hk.2))); replace HB := Aside0.mk (hb); have HO540 := Aside0.mk (ho); clear HO537; clear ho hb hg hat))
         go_ret
         exact ⟨_, aq13, by (with_reducible repeat (first | apply Kd.R_alloc | apply Kd.R_drewN | apply Kd.R_drew)); exact Kd.R_mono HO540.out (fun _ hk => trivial), aq9⟩
end Go.Proofs.YtpbhfpbfmpocdaaDoor.PSpillTells
