-- Written by print2.py over the kit's printer. Not trusted: Lean checks it.
import Derived.Test.YtdopacgaklaaeaaDoorPDeadTellshqq
import Derived.Test.YtdopacgaklaaeaaDoorPDeadTellsx0
import Derived.Test.YtdopacgaklaaeaaDoorPDeadTellsx12
import Derived.Test.YtdopacgaklaaeaaDoorPDeadTellsx13
namespace Go.Proofs.YtdopacgaklaaeaaDoor.PDeadTells
open Go.RowKit Go.Proofs.YtdopacgaklaaeaaDoorW.PrintWords Go.Proofs.YtdopacgaklaaeaaDoorW.PrintLast Go.Proofs.YtdopacgaklaaeaaDoorW.PrintMore
attribute [local go_sem] max2_int min2_int max_two min_two max_three min_three max_four min_four   -- for this text's walks alone
set_option linter.unusedVariables false
set_option linter.unusedSimpArgs false

/-! ### palingref15_Ahead: function 54 -/
mutual
def palingref15_Ahead.l0 : Nat → List (S28) → List (List Int) → List Int → Int → Option ((List (List Int)))
  | 0, _, _, _, _ => none
  | k + 1, x0, x3, x4, x5 => if x5 < (x0.length : Int) then (palingref15_Ahead.l1 k x0 x3 x4 x5 0) else (some x3)
def palingref15_Ahead.l1 : Nat → List (S28) → List (List Int) → List Int → Int → Int → Option ((List (List Int)))
  | 0, _, _, _, _, _ => none
  | k + 1, x0, x3, x4, x5, x6 => if x6 < (x4.length : Int) then (if 0 ≤ x6 then ((palingref15_Needed.f k x0 (rd x4 x6) x5).bind fun t336 => (if t336 = true then (if 0 ≤ x5 then (if x5 < (x3.length : Int) then (if (rd_L5 x3 x5).length < 17592186044416 then (palingref15_Ahead.l1 k x0 (x3.set (x5 : Int).toNat ((rd_L5 x3 x5) ++ [rd x4 x6])) x4 x5 (wrap64 (x6 + 1))) else (none)) else (none)) else (none)) else (palingref15_Ahead.l1 k x0 x3 x4 x5 (wrap64 (x6 + 1))))) else (none)) else (palingref15_Ahead.l0 k x0 x3 x4 (wrap64 (x5 + 1)))
end
def palingref15_Ahead.f (k : Nat) (l0 : List (S28)) : Option ((List (List Int))) := if 0 ≤ (l0.length : Int) then (if ((l0.length : Int) : Int).toNat ≤ 11728124029610 then ((palingref15_Regs.f k l0).bind fun t332 => (palingref15_Ahead.l0 k l0 (List.replicate ((l0.length : Int) : Int).toNat []) t332 0)) else (none)) else (none)
theorem palingref15_Ahead.mono_l : ∀ k, (∀ y0 y1 y2 y3, LeO (palingref15_Ahead.l0 k y0 y1 y2 y3) (palingref15_Ahead.l0 (k + 1) y0 y1 y2 y3)) ∧ (∀ y0 y1 y2 y3 y4, LeO (palingref15_Ahead.l1 k y0 y1 y2 y3 y4) (palingref15_Ahead.l1 (k + 1) y0 y1 y2 y3 y4))
  | 0 => ⟨fun _ _ _ _ r h => by simp [palingref15_Ahead.l0] at h, fun _ _ _ _ _ r h => by simp [palingref15_Ahead.l1] at h⟩
  | k + 1 => by
    obtain ⟨ih0, ih1⟩ := palingref15_Ahead.mono_l k
    refine ⟨?_, ?_⟩ <;> intros <;> (first | unfold palingref15_Ahead.l0 | unfold palingref15_Ahead.l1) <;> repeat' (first | (with_reducible first | exact ih0 _ _ _ _ | exact ih1 _ _ _ _ _ | exact palingref15_Needed.mono _ _ _ _ | exact palingref15_Regs.mono _ _ | exact LeO.refl _ | exact LeO.none _ | refine LeO.ite ?_ ?_ | refine LeO.bind ?_ (fun _ => ?_)) | exact ih0 _ _ _ _ | exact ih1 _ _ _ _ _ | exact palingref15_Needed.mono _ _ _ _ | exact palingref15_Regs.mono _ _ | exact LeO.none _ | refine LeO.ite ?_ ?_ | refine LeO.bind ?_ (fun _ => ?_))
theorem palingref15_Ahead.mono : ∀ a0 k, LeO (palingref15_Ahead.f k a0) (palingref15_Ahead.f (k + 1) a0) := by
 intro a0 k
 obtain ⟨ih0, ih1⟩ := palingref15_Ahead.mono_l k
 unfold palingref15_Ahead.f
 repeat' (first | (with_reducible first | exact ih0 _ _ _ _ | exact ih1 _ _ _ _ _ | exact palingref15_Needed.mono _ _ _ _ | exact palingref15_Regs.mono _ _ | exact LeO.refl _ | exact LeO.none _ | refine LeO.ite ?_ ?_ | refine LeO.bind ?_ (fun _ => ?_)) | exact ih0 _ _ _ _ | exact ih1 _ _ _ _ _ | exact palingref15_Needed.mono _ _ _ _ | exact palingref15_Regs.mono _ _ | exact LeO.none _ | refine LeO.ite ?_ ?_ | refine LeO.bind ?_ (fun _ => ?_))
def palingref15_Ahead.T11 : Bool × List (List Nat × List Nat) := (true, [([], []), ([], []), ([], []), ([], []), ([2, 3], [2, 3]), ([4], [4]), ([], []), ([], []), ([6, 7], [6, 7]), ([8], [8]), ([9], [9]), ([5, 10], [5, 10]), ([0, 1, 0, 1, 2, 3, 4, 5, 6, 7, 8, 9, 10, 11], [0, 1]), ([12, 11, 11, 0, 1, 2, 3, 4, 5, 6, 7, 8, 9, 10, 11], [11, 12])])
def palingref15_Ahead.B11 : List Nat := [0, 0, 0, 0, 12, 28, 0, 0, 192, 448, 960, 2044, 4095, 8191]
theorem palingref15_Ahead.tab11 : rtab .any (opsOf Tryd.f54 11) = palingref15_Ahead.T11 := by kernel_rfl
theorem palingref15_Ahead.bits11 : waitsOk palingref15_Ahead.T11.2 palingref15_Ahead.B11 = true := by kernel_rfl
set_option maxHeartbeats 8000000 in
set_option maxRecDepth 100000 in
theorem palingref15_Ahead.calls (k : Nat) (A0 : Option Addr) (c0 : Nat) (l0 : List (S28)) (r : List (List Int)) (w : World) (hr0 : Kd.C k28 w A0 l0.length l0) (hc0 : l0.length ≤ c0) (h : palingref15_Ahead.f k l0 = some r) :
    Calls Tryd.prog 54 #[.slice A0 l0.length c0] w fun e w' => ∃ v0_ : Value, e = .returned (v0_) ∧ Kd.S (Kd.slice 3 (Kd.int .i64)) 57 w' w.heap.size (fun _ => True) v0_ r ∧ Below w.heap.size w w' := by
 have HR0 := Aside0.mk hr0
 have HC0 := Aside0.mk hc0
 clear hr0 hc0
 have HB := Aside0.mk (Below.refl w.heap.size w)
 have H : (if 0 ≤ (l0.length : Int) then (if ((l0.length : Int) : Int).toNat ≤ 11728124029610 then ((palingref15_Regs.f k l0).bind fun t332 => (palingref15_Ahead.l0 k l0 (List.replicate ((l0.length : Int) : Int).toNat []) t332 0)) else (none)) else (none)) = some r := h
 clear h
 by_cases c2 : 0 ≤ (l0.length : Int)
 rotate_left
 ·rw [if_neg c2] at H
  exact absurd H (by simp)
 rw [if_pos c2] at H
 have c2b0 := eq_true c2
 have c2b1 : decide (0 ≤ (l0.length : Int)) = true := decide_eq_true c2
 clear c2
 by_cases c3 : ((l0.length : Int) : Int).toNat ≤ 11728124029610
 rotate_left
 ·rw [if_neg c3] at H
  exact absurd H (by simp)
 rw [if_pos c3] at H
 have c3b0 := eq_true c3
 have c3b1 : decide (((l0.length : Int) : Int).toNat ≤ 11728124029610) = true := decide_eq_true c3
 clear c3
 obtain ⟨y329, hy_⟩ : ∃ y_ : List (List Int), y_ = (List.replicate ((l0.length : Int) : Int).toNat []) := ⟨_, rfl⟩
 replace H : ((palingref15_Regs.f k l0).bind fun t332 => (palingref15_Ahead.l0 k l0 y329 t332 0)) = some r := aq1
 have Ny329 := Aside0.mk hy_
 clear hy_
 obtain ⟨t332, A4, H⟩ := bS_ H
 have H' := Aside0.mk H
 clear H
 go_enter Tryd.func54, Tryd.ntmps54
 go_wp2_with (first | ((with_reducible refine gate_dst (N := 10) rfl ?_); refine Kd.S_make (Kd.slice 3 (Kd.int .i64)) _ 57 rfl (N := 10) rfl 53 _ _ rfl (l0.length : Int) rfl rfl Tryd.underlying53 (.slice none 0 0) 24 info57 rfl (by decide) (by omega) [] (ok := fun _ => True) (okp := fun _ => True) ⟨_, rfl, Kd.R_nil _ _ _ _ _⟩ (fun _ hk => hk) trivial (of_decide_eq_true aq2) (Nat.le_trans (Nat.mul_le_mul_right _ (of_decide_eq_true aq2 : (l0.length : Int).toNat ≤ 11728124029610)) (by omega)) (Below.refl _ _) (Nat.le_refl _) ?_; intro v330 w5 ho6 hb hg_ hnew_; clear hg_ hnew_; (first | rw [← Ny329.out] at ho6 | (simp only [Int.reduceToNat] at ho6; rw [← Ny329.out] at ho6)); have HO331 := Aside0.mk (Kd.S_lower ho6 (below_size aq0)); replace HB := Aside0.mk (below_step aq0 hb); clear hb ho6) | ((with_reducible refine gate_callee (f := 55) rfl ?_); refine goesL_ (some 12) rfl rfl Tryd.func55 (by kernel_rfl) rfl #[.slice A0 l0.length c0] rfl aq4 ?_; (with_reducible refine (palingref15_Regs.calls k _ _ l0 t332 _ ?side1 ?side2 A4.out).mono ?_); (case side1 => repeat (first | exact (Kd.C_below HR0.out HB.out) | (with_reducible refine Kd.C_alloc ?_ _) | (with_reducible refine Kd.C_drewN ?_ _) | (with_reducible refine Kd.C_drew ?_))); (case side2 => exact HC0.out); rintro e w7 ⟨v333, rfl, ho0, hb⟩; refine ⟨_, rfl, ?_⟩; replace HO331 := Aside0.mk (Kd.S_elder' (by (with_reducible repeat (first | apply Kd.S_alloc | apply Kd.S_drewN | apply Kd.S_drew)); exact HO331.out) (Kd.R_base ho0) hb); have HO334 := Aside0.mk (Kd.R_lower ho0 (below_size aq0)); replace HB := Aside0.mk (below_step aq0 hb); (try clear hb); (try clear hb2); (try clear hk); (try clear hi); (try clear ho0)))
 go_loopg [5] k (fun kq v5 w' => ∃ (x3_1 : List (List Int)) (x5_1 : Int), v5 = .int .i64 x5_1 ∧ Aside0 (palingref15_Ahead.l0 kq l0 x3_1 t332 x5_1 = some r) ∧ Aside0 (kq ≤ k) ∧ Aside0 (Kd.S (Kd.slice 3 (Kd.int .i64)) 57 w' w.heap.size (fun k_ => some k_ ≠ (v333 : Value).ownBlock) v330 x3_1) ∧ Aside0 (Kd.R (Kd.int .i64) 3 w' w.heap.size (fun _ => True) v333 t332) ∧ Aside0 (Below w.heap.size w w'))
 case atStart => exact ⟨(y329), (0), aq5, H', ⟨Nat.le_refl _⟩, ⟨by (with_reducible repeat (first | apply Kd.S_alloc | apply Kd.S_drewN | apply Kd.S_drew)); exact Kd.S_mono HO331.out (fun _ hk => hk.2)⟩, ⟨by (with_reducible repeat (first | apply Kd.R_alloc | apply Kd.R_drewN | apply Kd.R_drew)); exact HO334.out⟩, ⟨aq0⟩⟩
 case round =>
  clear H'
  obtain ⟨x3_1, x5_1, rfl, HA, HK1, HO_3, HO_4, HB⟩ := hrel
  cases gk with
  | zero => exact absurd HA.out (by simp [palingref15_Ahead.l0])
  | succ k1 =>
   have H := HA.out
   clear HA
   simp only [palingref15_Ahead.l0] at H
   by_cases c8 : x5_1 < (l0.length : Int)
   rotate_left
   ·rw [if_neg c8] at H
    have c8b0 : decide (x5_1 < (l0.length : Int)) = false := decide_eq_false c8
    clear c8
    obtain rfl := Option.some.inj H
    go_wp2
    go_ret
    exact ⟨_, aq11, by (with_reducible repeat (first | apply Kd.S_alloc | apply Kd.S_drewN | apply Kd.S_drew)); exact Kd.S_mono HO_3.out (fun _ hk => trivial), aq0⟩
   rw [if_pos c8] at H
   have c8b0 : decide (x5_1 < (l0.length : Int)) = true := decide_eq_true c8
   clear c8
   have H' := Aside0.mk H
   clear H
   go_wp2
   go_loopg [6] k1 (fun kq v6 w' => ∃ (x3_2 : List (List Int)) (x6_2 : Int), v6 = .int .i64 x6_2 ∧ Aside0 (palingref15_Ahead.l1 kq l0 x3_2 t332 x5_1 x6_2 = some r) ∧ Aside0 (kq ≤ k1) ∧ Aside0 (Kd.S (Kd.slice 3 (Kd.int .i64)) 57 w' w.heap.size (fun k_ => some k_ ≠ (v333 : Value).ownBlock) v330 x3_2) ∧ Aside0 (Kd.R (Kd.int .i64) 3 w' w.heap.size (fun _ => True) v333 t332) ∧ Aside0 (Below w.heap.size w w'))
   case atStart => exact ⟨(x3_1), (0), aq5, H', ⟨Nat.le_refl _⟩, ⟨aq30⟩, ⟨aq31⟩, ⟨aq0⟩⟩
   case round =>
    clear H'
    obtain ⟨x3_2, x6_2, rfl, HA, HK2, HO_3, HO_4, HB⟩ := hrel
    cases gk with
    | zero => exact absurd HA.out (by simp [palingref15_Ahead.l1])
    | succ k2 =>
     have H := HA.out
     clear HA
     simp only [palingref15_Ahead.l1] at H
     by_cases c9 : x6_2 < (t332.length : Int)
     rotate_left
     ·rw [if_neg c9] at H
      have c9b0 : decide (x6_2 < (t332.length : Int)) = false := decide_eq_false c9
      clear c9
      have H' := Aside0.mk H
      clear H
      obtain ⟨Ao28, co28, eo28⟩ := Kd.R_slice HO_4.out
      subst eo28
      go_wp2
      go_roundg k2
      case measure => have := HK1.out; have := HK2.out; omega
      case rel => exact ⟨(x3_2), (wrap64 (x5_1 + 1)), aq5, H', ⟨aq39⟩, ⟨aq30⟩, ⟨aq31⟩, ⟨aq0⟩⟩
     rw [if_pos c9] at H
     have c9b0 : decide (x6_2 < (t332.length : Int)) = true := decide_eq_true c9
     clear c9
     by_cases c10 : 0 ≤ x6_2
     rotate_left
     ·rw [if_neg c10] at H
      exact absurd H (by simp)
     rw [if_pos c10] at H
     have c10b0 : decide (0 ≤ x6_2) = true := decide_eq_true c10
     clear c10
     obtain ⟨t336, A11, H⟩ := bS_ H
     by_cases c12 : t336 = true
     rotate_left
     ·replace c12 := Bool.eq_false_iff.mpr c12
      subst c12
      rw [if_neg nf_] at H
      have H' := Aside0.mk H
      clear H
      obtain ⟨Ao26, co26, eo26⟩ := Kd.R_slice HO_4.out
      subst eo26
      have p335 : 0 ≤ (x6_2 : Int) := of_decide_eq_true aq2
      have q335 : x6_2 < (t332.length : Int) := of_decide_eq_true aq2
      obtain ⟨ad335, e335, hx335_0⟩ := Kd.at_int (Kd.R_reads' HO_4.out).2.2 x6_2 p335 q335
      cases e335
      replace p335 := eq_true p335
      replace q335 := eq_true q335
      go_wp2_with (first | ((with_reducible refine gate_callee (f := 74) rfl ?_); refine goesL_ (some 31) rfl rfl Tryd.func74 (by kernel_rfl) rfl #[.slice A0 l0.length c0, .int .i64 (rd t332 x6_2), .int .i64 x5_1] rfl aq4 ?_; (with_reducible refine (palingref15_Needed.calls k2 _ _ l0 (rd t332 x6_2) x5_1 false _ ?side1 ?side2 A11.out).mono ?_); (case side1 => repeat (first | exact (Kd.C_below HR0.out HB.out) | (with_reducible refine Kd.C_alloc ?_ _) | (with_reducible refine Kd.C_drewN ?_ _) | (with_reducible refine Kd.C_drew ?_))); (case side2 => exact HC0.out); rintro e w27 ⟨rfl, hb⟩; refine ⟨_, rfl, ?_⟩; replace HO_3 := Aside0.mk (Kd.S_below aq30 hb); replace HO_4 := Aside0.mk (Kd.R_below aq31 hb); replace HB := Aside0.mk (below_step aq0 hb); (try clear hb); (try clear hb2); (try clear hk); (try clear hi)))
      go_roundg k2
      case measure => have := HK1.out; have := HK2.out; omega
      case rel => exact ⟨(x3_2), (wrap64 (x6_2 + 1)), aq5, H', ⟨aq39⟩, ⟨aq30⟩, ⟨aq31⟩, ⟨aq0⟩⟩
     subst c12
     rw [if_pos rfl] at H
     by_cases c13 : 0 ≤ x5_1
     rotate_left
     ·rw [if_neg c13] at H
      exact absurd H (by simp)
     rw [if_pos c13] at H
     have c13b0 : decide (0 ≤ x5_1) = true := decide_eq_true c13
     clear c13
     by_cases c14 : x5_1 < (x3_2.length : Int)
     rotate_left
     ·rw [if_neg c14] at H
      exact absurd H (by simp)
     rw [if_pos c14] at H
     have c14b0 : decide (x5_1 < (x3_2.length : Int)) = true := decide_eq_true c14
     clear c14
     by_cases c15 : (rd_L5 x3_2 x5_1).length < 17592186044416
     rotate_left
     ·rw [if_neg c15] at H
      exact absurd H (by simp)
     rw [if_pos c15] at H
     have LMc15 := Aside0.mk c15
     clear c15
     obtain ⟨y339, hy_⟩ : ∃ y_ : List Int, y_ = ((rd_L5 x3_2 x5_1) ++ [rd t332 x6_2]) := ⟨_, rfl⟩
     replace H : (palingref15_Ahead.l1 k2 l0 (x3_2.set (x5_1 : Int).toNat y339) t332 x5_1 (wrap64 (x6_2 + 1))) = some r := aq1
     have Ny339 := Aside0.mk hy_
     clear hy_
     obtain ⟨y342, hy_⟩ : ∃ y_ : List (List Int), y_ = (x3_2.set (x5_1 : Int).toNat y339) := ⟨_, rfl⟩
     replace H : (palingref15_Ahead.l1 k2 l0 y342 t332 x5_1 (wrap64 (x6_2 + 1))) = some r := aq1
     have Ny342 := Aside0.mk hy_
     clear hy_
     have H' := Aside0.mk H
     clear H
     obtain ⟨Ao17, co17, eo17⟩ := Kd.R_slice HO_4.out
     subst eo17
     have p335 : 0 ≤ (x6_2 : Int) := of_decide_eq_true aq2
     have q335 : x6_2 < (t332.length : Int) := of_decide_eq_true aq2
     obtain ⟨ad335, e335, hx335_0⟩ := Kd.at_int (Kd.R_reads' HO_4.out).2.2 x6_2 p335 q335
     cases e335
     replace p335 := eq_true p335
     replace q335 := eq_true q335
     try go_wp2_with (first | ((with_reducible refine gate_callee (f := 74) rfl ?_); refine goesL_ (some 31) rfl rfl Tryd.func74 (by kernel_rfl) rfl #[.slice A0 l0.length c0, .int .i64 (rd t332 x6_2), .int .i64 x5_1] rfl aq4 ?_; (with_reducible refine (palingref15_Needed.calls k2 _ _ l0 (rd t332 x6_2) x5_1 true _ ?side1 ?side2 A11.out).mono ?_); (case side1 => repeat (first | exact (Kd.C_below HR0.out HB.out) | (with_reducible refine Kd.C_alloc ?_ _) | (with_reducible refine Kd.C_drewN ?_ _) | (with_reducible refine Kd.C_drew ?_))); (case side2 => exact HC0.out); rintro e w18 ⟨rfl, hb⟩; refine ⟨_, rfl, ?_⟩; replace HO_3 := Aside0.mk (Kd.S_below aq30 hb); replace HO_4 := Aside0.mk (Kd.R_below aq31 hb); replace HB := Aside0.mk (below_step aq0 hb); (try clear hb); (try clear hb2); (try clear hk); (try clear hi)))
     replace HO_3 := Aside0.mk (Kd.S_drew HO_3.out)
     replace HO_4 := Aside0.mk (Kd.R_drew HO_4.out)
     replace HB := Aside0.mk (below_drew1 HB.out)
     obtain ⟨Ao20, co20, eo20⟩ := Kd.S_slice HO_3.out
     (first | subst eo20 | (injection eo20 with f1_ f2_ f3_; have f4_ := f1_.symm; have f5_ := f3_.symm; clear f1_ f2_ f3_; subst f4_; subst f5_))
     have p337 : 0 ≤ (x5_1 : Int) := of_decide_eq_true aq2
     have q337 : x5_1 < (x3_2.length : Int) := of_decide_eq_true aq2
     obtain ⟨ad337, A337_0, c337_0, e337, hx337_0, hl337_0, hi337_0⟩ := at_L5 (Kd.S_reads' HO_3.out).2.2 x5_1 p337 q337
     cases e337
     obtain ⟨ce337, hce337, hMe337, hcc337⟩ := Kd.S_get HO_3.out [] x5_1 p337 (by first | exact q337 | exact of_decide_eq_true aq2 | (have e_ := (Kd.S_reads' HO_3.out).1; omega))
     obtain ⟨ve337_0, rfl, ge337_0⟩ := hMe337
     have hv337_0 := hcc337 0 _ rfl
     rw [Nat.add_zero, show ((Kd.slice 3 (Kd.int .i64))).sz = 1 from rfl, Nat.mul_one] at hv337_0
     replace hv337_0 := Option.some.inj (hv337_0.symm.trans hx337_0)
     rw [hv337_0] at ge337_0
     have HL337_0 := Aside0.mk (show Kd.R (Kd.int .i64) 3 _ _ _ _ (rd_L5 x3_2 x5_1) from ge337_0)
     clear hv337_0 ge337_0
     have HX337_0 := Aside0.mk hx337_0
     clear hcc337 hce337
     have HR337_0 := Aside0.mk hi337_0
     have HC337_0 := Aside0.mk hl337_0
     clear hi337_0 hl337_0
     replace p337 := eq_true p337
     replace q337 := eq_true q337
     have p338 : 0 ≤ (x6_2 : Int) := of_decide_eq_true aq2
     have q338 : x6_2 < (t332.length : Int) := of_decide_eq_true aq2
     obtain ⟨ad338, e338, hx338_0⟩ := Kd.at_int (Kd.R_reads' HO_4.out).2.2 x6_2 p338 q338
     obtain rfl : ad335 = ad338 := (by injection e338)
     replace p338 := eq_true p338
     replace q338 := eq_true q338
     obtain ⟨go21, co21, eo21, gb0, gl21, cl21, HG21⟩ := Kd.S_form HO_3.out (by have h_ : (x5_1 : Int) < ((x3_2.length : Int) : Int) := of_decide_eq_true aq2; have h2_ : 0 ≤ (x5_1 : Int) := (of_decide_eq_true aq2); omega)
     (first | cases eo21 | (injection eo21 with ea_ en_ ec_; (first | subst ea_ | (injection ea_ with ea_; subst ea_)); subst ec_; clear en_))
     have GB21 := Aside0.mk gb0
     have GG21 := Aside0.mk HG21
     clear gb0 gl21 HG21
     (first | simp only [add_plain] at hx337_0 | skip)
     obtain ⟨oki21, ce21, hcl21, hM21, hcc21, _, _, hH21⟩ := Kd.S_elem HO_3.out [] (x5_1 : Int) (of_decide_eq_true aq2) (by have h_ : (x5_1 : Int) < ((x3_2.length : Int) : Int) := of_decide_eq_true aq2; first | exact h_ | (have e_ := (Kd.S_reads' HO_3.out).1; omega) | simpa using h_)
     obtain ⟨ve21_0, rfl, ge21_0⟩ := hM21
     have hv21 := hcc21 0 _ rfl
     have hX21 := HX337_0.out
     (try simp only [add_plain] at hX21)
     (try simp only [Nat.add_zero] at hv21)
     (try rw [show ((Kd.slice 3 (Kd.int .i64))).sz = 1 from rfl, Nat.mul_one] at hv21)
     replace hv21 := Option.some.inj (hv21.symm.trans hX21)
     subst hv21
     clear hX21 hcc21 hcl21
     have UU21 := Aside0.mk (show Kd.R (Kd.int .i64) 3 _ w.heap.size oki21 (.slice A337_0 (rd_L5 x3_2 x5_1).length c337_0) (rd_L5 x3_2 x5_1) from ge21_0)
     have HH21 := Aside0.mk hH21
     have HN21 := Aside0.mk (Kd.S_reads' HO_3.out).1
     clear hH21 ge21_0
     refine start_ (n := 14) (S := fun w' => w'.cell? ⟨go21, (x5_1).toNat, none⟩ = some (.slice A337_0 (rd_L5 x3_2 x5_1).length c337_0) ∧ w'.cell? (ad335.add (x6_2).toNat) = some (.int .i64 (rd t332 x6_2))) (ds := [11, 13]) #[false, false, false, false, false, false, false, false, false, false, false, false, false, false] (by kernel_rfl) rfl rfl ⟨hx337_0, hx338_0⟩ (fun hHeld => ?_); refine with_tabW palingref15_Ahead.tab11 palingref15_Ahead.bits11 (fun HT_ HW_ => ?_)
     generalize w18.drew = w19 at HO_3 HO_4 HB GG21 HH21 HL337_0 HR337_0 HX337_0 UU21 hx337_0 hx338_0 hHeld ⊢
     refine pz (i := 0) (N := some 33) (bz 14 1) rfl rfl ?_
     refine pz (i := 1) (N := some 34) (bz 14 3) rfl rfl ?_
     refine pz (i := 2) (N := some 35) (bz 14 7) rfl rfl ?_
     refine pz (i := 3) (N := some 36) (bz 14 15) rfl rfl ?_
     refine pz (i := 4) (N := some 37) (bz 14 31) rfl rfl ?_
     refine pz (i := 6) (N := some 39) (bz 14 95) rfl rfl ?_
     refine pz (i := 7) (N := some 40) (bz 14 223) rfl rfl ?_
     refine pz (i := 8) (N := some 41) (bz 14 479) rfl rfl ?_
     refine tz2 (i := 5) (N := some 38) (bz 14 511) rfl rfl hHeld ?_
     refine tz2 (i := 9) (N := some 42) (bz 14 1023) rfl rfl hHeld ?_
     refine one_ (i := 10) (N := some 43) #[true, true, true, true, true, true, true, true, true, true, true, false, false, false] rfl rfl (one_of HT_.out (by kernel_rfl)) (by decide) (fun K hK => ?_)
     refine value_ (w1 := ?_) (v := ?_) (by rfl) rfl ?_ ?_
     rotate_left 2
     ·go_simp
      constructor
      ·rfl
      ·rfl
     refine hK.out _ _ ⟨(World.cell?_alloc_lt _ _ _ (World.block_lt_of_cell? _ _ (hHeld.1))).trans (hHeld.1), (World.cell?_alloc_lt _ _ _ (World.block_lt_of_cell? _ _ (hHeld.2))).trans (hHeld.2)⟩ (fun hHeld => ?_)
     clear hK K
     refine norm_ (a' := ?_) ?_ ?_
     rotate_left
     ·show Act.put _ (some 43) _ = _
      simp only [Act.put, List.setIfInBounds_toArray, List.set_cons_zero, List.set_cons_succ, i64_w, i32_w]
      rfl
     refine last_ (i := 11) (N := some 44) #[true, true, true, true, true, true, true, true, true, true, true, true, false, false] rfl rfl (one_of HT_.out (by kernel_rfl)) (by decide) (fun K hK => ?_)
     refine Kd.R_append_step (Kd.int .i64) (w0 := w) w.heap.size (by rfl) (.tmp 38) (.tmp 43) 57 3 (.int .i64 0) 8 rfl Tryd.underlying57 info3 rfl (by decide) (by omega) (.slice A337_0 (rd_L5 x3_2 x5_1).length c337_0) (rd_L5 x3_2 x5_1) (rd t332 x6_2) [.int .i64 (rd t332 x6_2)] (fun k_ => oki21 k_ ∨ ((fun k_ => some k_ ≠ (.slice (some ad335) t332.length co17 : Value).ownBlock)) k_ ∧ w19.heap.size ≤ k_) (fun _ => False) rfl rfl ?aP (fun _ hk => hk.elim) ?aF ?aO ?aB ?aS ?aL ?_
     (case aP => exact rfl)
     (case aB => exact aq0)
     (case aF => exact (fun k_ hk => .inr ⟨Kd.fresh' (Kd.R_lt aq31) k_ hk, hk⟩))
     (case aO => exact (by (with_reducible repeat (first | apply Kd.R_alloc | apply Kd.R_drewN | apply Kd.R_drew)); exact Kd.R_mono UU21.out (fun _ hk => .inl hk)))
     (case aS => exact (below_size aq0))
     (case aL => have := LMc15.out; omega)
     intro v340 w22 ho hb hg hat
     rw [← Ny339.out] at ho
     replace HO_4 := Aside0.mk (Kd.R_grown2 aq31 rfl hg (fun k_ e_ => (HL337_0.out.1 k_ e_).1))
     replace HB := Aside0.mk (hb)
     replace HH21 := Aside0.mk (Kd.H_grown (Kd.H_widen (by repeat (first | exact HH21.out | refine Kd.H_alloc ?_ _ | refine Kd.H_drewN ?_ _ | refine Kd.H_drew ?_))) hg (fun k_ e_ => .inl (UU21.out.1 k_ e_)))
     have HO341 := Aside0.mk (ho)
     clear HO_3 UU21 HL337_0 ho hb hg hat
     have p16 : 0 ≤ (x5_1 : Int) := of_decide_eq_true aq2
     have q16 : (x5_1 : Int) < ((x3_2.length : Int) : Int) := of_decide_eq_true aq2
     replace p16 := eq_true p16
     replace q16 := eq_true q16
     obtain ⟨Ao25, co25, eo25⟩ := Kd.R_slice HO341.out
     (first | subst eo25 | (injection eo25 with f1_ f2_ f3_; have f4_ := f1_.symm; have f5_ := f3_.symm; clear f1_ f2_ f3_; subst f4_; subst f5_))
     obtain ⟨_, _, hraw23, _, _, hcc23, _⟩ := Kd.H_raw HH21.out (of_decide_eq_true aq2) (by have h_ : (x5_1 : Int) < ((x3_2.length : Int) : Int) := of_decide_eq_true aq2; first | exact h_ | (have e_ := (HN21.out); omega) | simpa using h_)
     obtain ⟨_, hfr23⟩ := Kd.H_at HH21.out (of_decide_eq_true aq2) (by have h_ : (x5_1 : Int) < ((x3_2.length : Int) : Int) := of_decide_eq_true aq2; first | exact h_ | (have e_ := (HN21.out); omega) | simpa using h_)
     have hx23_0 := hcc23 0 _ rfl
     have hf23_0 := hfr23 0
     (try simp only [Nat.add_zero] at hx23_0 hf23_0)
     (try rw [show ((Kd.slice 3 (Kd.int .i64))).sz = 1 from rfl, Nat.mul_one] at hx23_0)
     (try rw [show ((Kd.slice 3 (Kd.int .i64))).sz = 1 from rfl, Nat.mul_one] at hf23_0)
     have HP23 := Kd.S_seg0 HH21.out (of_decide_eq_true aq2) (by have h_ : (x5_1 : Int) < ((x3_2.length : Int) : Int) := of_decide_eq_true aq2; first | exact h_ | (have e_ := (HN21.out); omega) | simpa using h_) (seg := [.slice Ao25 y339.length co25]) (j := 0) (show 1 ≤ 1 from by decide) (x' := y339) (Kd.M_row HO341.out) (fun _ hk => hk)
     (try simp only [show ((Kd.slice 3 (Kd.int .i64))).sz = 1 from rfl, Nat.mul_one, Nat.add_zero] at HP23)
     clear hcc23 hfr23
     have HS23 := HP23.1
     rw [← Ny342.out] at HS23
     have HQ23 := Aside0.mk HS23
     obtain ⟨_, hgg23⟩ := Kd.R_typed hraw23 go21 rfl
     have GG23_ := Aside0.mk hgg23
     clear HP23 HS23 hgg23
     refine hK.out _ _ ?_
     clear hK K
     refine norm_ (a' := ?_) ?_ ?_
     rotate_left
     ·show Act.put _ (some 44) _ = _
      simp only [Act.put, List.setIfInBounds_toArray, List.set_cons_zero, List.set_cons_succ, i64_w, i32_w]
      rfl
     refine pz (i := 12) (N := some 45) (bz 14 8191) rfl rfl ?_
     refine last_ (i := 13) (N := none) #[true, true, true, true, true, true, true, true, true, true, true, true, true, true] rfl rfl (one_of HT_.out (by kernel_rfl)) (by decide) (fun K hK => ?_)
     refine skip_ (w1 := ?_) (by rfl) rfl ?_ ?_
     rotate_left
     ·go_simp
      rfl
     refine hK.out _ _ ?_
     clear hK K
     refine done_ (done_of HT_.out (by kernel_rfl)) ?_
     try go_wp2
     go_roundg k2
     case measure => have := HK1.out; have := HK2.out; omega
     case rel => exact ⟨(y342), (wrap64 (x6_2 + 1)), aq5, H', ⟨aq39⟩, ⟨by (with_reducible repeat (first | apply Kd.S_alloc | apply Kd.S_drewN | apply Kd.S_drew)); exact HQ23.out⟩, ⟨by (with_reducible repeat (first | apply Kd.R_alloc | apply Kd.R_drewN | apply Kd.R_drew)); exact Kd.R_mono (Kd.R_far (p := ⟨go21, (x5_1 : Int).toNat, none⟩) (Kd.R_types HO_4.out GG23_.out (by decide)) (fun _ hk => hk.2) (.slice Ao25 y339.length co25)) (fun _ hk => trivial)⟩, ⟨by repeat (first | (with_reducible first | exact HB.out | apply below_alloc | apply pw_below_drewN | apply below_drew1 | refine below_set ?_ GB21.out) | exact HB.out)⟩⟩
end Go.Proofs.YtdopacgaklaaeaaDoor.PDeadTells
