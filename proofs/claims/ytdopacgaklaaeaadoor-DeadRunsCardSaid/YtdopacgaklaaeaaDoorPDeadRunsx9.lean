-- Written by print2.py over the kit's printer. Not trusted: Lean checks it.
import Derived.Test.YtdopacgaklaaeaaDoorPDeadRunshqq
import Derived.Test.YtdopacgaklaaeaaDoorPDeadRunsx0
namespace Go.Proofs.YtdopacgaklaaeaaDoor.PDeadRuns
open Go.RowKit Go.Proofs.YtdopacgaklaaeaaDoorW.PrintWords Go.Proofs.YtdopacgaklaaeaaDoorW.PrintLast Go.Proofs.YtdopacgaklaaeaaDoorW.PrintMore
attribute [local go_sem] max2_int min2_int max_two min_two max_three min_three max_four min_four   -- for this text's walks alone
set_option linter.unusedVariables false
set_option linter.unusedSimpArgs false

/-! ### palingref12_Put: function 63 -/
def palingref12_Put.l0 : Nat → List (S90) → Int → Int → List (S90) → Int → Option ((List (S90)))
  | 0, _, _, _, _, _ => none
  | k + 1, x0, x1, x2, x7, x8 => if x8 < (x0.length : Int) then (if 0 ≤ x8 then (if ((rd_T90 x0 x8).f0) = x1 then (palingref12_Put.l0 k x0 x1 x2 x7 (wrap64 (x8 + 1))) else (if x7.length < 8796093022208 then (palingref12_Put.l0 k x0 x1 x2 (x7 ++ [(⟨(rd_T90 x0 x8).f0, (rd_T90 x0 x8).f1⟩ : S90)]) (wrap64 (x8 + 1))) else (none))) else (none)) else (if x7.length < 8796093022208 then (some (x7 ++ [(⟨x1, x2⟩ : S90)])) else (none))
def palingref12_Put.f (k : Nat) (l0 : List (S90)) (a1 : Int) (a2 : Int) : Option ((List (S90))) := if a1 < 0 then (some l0) else (palingref12_Put.l0 k l0 a1 a2 ([] : List (S90)) 0)
theorem palingref12_Put.mono_l : ∀ k, (∀ y0 y1 y2 y3 y4, LeO (palingref12_Put.l0 k y0 y1 y2 y3 y4) (palingref12_Put.l0 (k + 1) y0 y1 y2 y3 y4))
  | 0 => fun _ _ _ _ _ r h => by simp [palingref12_Put.l0] at h
  | k + 1 => by
    have ih0 := palingref12_Put.mono_l k
    intros <;> unfold palingref12_Put.l0 <;> repeat' (first | (with_reducible first | exact ih0 _ _ _ _ _ | exact LeO.refl _ | exact LeO.none _ | refine LeO.ite ?_ ?_ | refine LeO.bind ?_ (fun _ => ?_)) | exact ih0 _ _ _ _ _ | exact LeO.none _ | refine LeO.ite ?_ ?_ | refine LeO.bind ?_ (fun _ => ?_))
theorem palingref12_Put.mono : ∀ a0 a1 a2 k, LeO (palingref12_Put.f k a0 a1 a2) (palingref12_Put.f (k + 1) a0 a1 a2) := by
 intro a0 a1 a2 k
 have ih0 := palingref12_Put.mono_l k
 unfold palingref12_Put.f
 repeat' (first | (with_reducible first | exact ih0 _ _ _ _ _ | exact LeO.refl _ | exact LeO.none _ | refine LeO.ite ?_ ?_ | refine LeO.bind ?_ (fun _ => ?_)) | exact ih0 _ _ _ _ _ | exact LeO.none _ | refine LeO.ite ?_ ?_ | refine LeO.bind ?_ (fun _ => ?_))
set_option maxHeartbeats 8000000 in
set_option maxRecDepth 100000 in
theorem palingref12_Put.calls (k : Nat) (P0_ : Nat → Prop) (u9000_ : Value) (l0 : List (S90)) (a1 : Int) (a2 : Int) (r : List (S90)) (w0 w : World) (hB : Below w0.heap.size w0 w) (ho0 : Kd.R k90 90 w w0.heap.size P0_ u9000_ l0) (h : palingref12_Put.f k l0 a1 a2 = some r) :
    Calls Tryd.prog 63 #[u9000_, .int .i64 a1, .int .i64 a2] w fun e w' => ∃ v0_ : Value, e = .returned (v0_) ∧ Kd.R k90 90 w' w0.heap.size (fun k_ => (P0_ k_ ∨ w.heap.size ≤ k_)) v0_ r ∧ Below w0.heap.size w0 w' ∧ Kept w w' (fun k_ => P0_ k_) := by
 have hu90 := Tryd.underlying90
 have HO0 := Aside0.mk (show Kd.R k90 90 w w0.heap.size (fun k_ => (P0_ k_ ∨ w.heap.size ≤ k_)) u9000_ l0 from Kd.R_mono ho0 (fun k_ hk => (.inl hk)))
 have HK := Aside0.mk (Kept.refl w (fun k_ => P0_ k_))
 have HW0 := Aside0.mk hB.size
 have HB := Aside0.mk hB
 clear hB
 have H : (if a1 < 0 then (some l0) else (palingref12_Put.l0 k l0 a1 a2 ([] : List (S90)) 0)) = some r := h
 clear h
 by_cases c4 : a1 < 0
 ·rw [if_pos c4] at H
  have c4b0 : decide (a1 < 0) = true := decide_eq_true c4
  clear c4
  obtain rfl := Option.some.inj H
  go_enter Tryd.func63, Tryd.ntmps63
  go_wp2
  go_ret
  exact ⟨_, aq7, by (with_reducible repeat (first | apply Kd.R_alloc | apply Kd.R_drewN | apply Kd.R_drew)); exact HO0.out, aq0, aq13⟩
 rw [if_neg c4] at H
 have c4b0 : decide (a1 < 0) = false := decide_eq_false c4
 clear c4
 have H' := Aside0.mk H
 clear H
 go_enter Tryd.func63, Tryd.ntmps63
 go_wp2
 go_loopg [7, 8] k (fun kq v7 v8 w' => ∃ (x7_1 : List (S90)) (x8_1 : Int), v8 = .int .i64 x8_1 ∧ Aside0 (palingref12_Put.l0 kq l0 a1 a2 x7_1 x8_1 = some r) ∧ Aside0 (kq ≤ k) ∧ Aside0 (Kd.R k90 90 w' w0.heap.size (fun k_ => (P0_ k_ ∨ w.heap.size ≤ k_) ∧ some k_ ≠ (v7 : Value).ownBlock) u9000_ l0) ∧ Aside0 (Kd.R k90 90 w' w0.heap.size (fun k_ => (P0_ k_ ∨ w.heap.size ≤ k_) ∧ some k_ ≠ (u9000_ : Value).ownBlock) v7 x7_1) ∧ Aside0 (Kept w w' (fun k_ => P0_ k_)) ∧ Aside0 (Below w0.heap.size w0 w'))
 case atStart => exact ⟨(([] : List (S90))), (0), aq2, H', ⟨Nat.le_refl _⟩, ⟨by (with_reducible repeat (first | apply Kd.R_alloc | apply Kd.R_drewN | apply Kd.R_drew)); exact Kd.R_mono HO0.out (fun _ hk => ⟨hk, (by simp [Value.ownBlock])⟩)⟩, ⟨by first | exact Kd.R_nil _ _ _ _ _ | exact Kd.N_nil _ _ _ _ _ | exact Kd.V_nil _ _ _ _ _ | exact Kd.Q_nil _ _ _ _ _ | exact Kd.S_nil _ _ _ _ _⟩, ⟨aq13⟩, ⟨aq0⟩⟩
 case round =>
  clear H'
  obtain ⟨x7_1, x8_1, rfl, HA, HK1, HO_0, HO_7, HK, HB⟩ := hrel
  cases gk with
  | zero => exact absurd HA.out (by simp [palingref12_Put.l0])
  | succ k1 =>
   have H := HA.out
   clear HA
   simp only [palingref12_Put.l0] at H
   by_cases c5 : x8_1 < (l0.length : Int)
   rotate_left
   ·rw [if_neg c5] at H
    have c5b0 : decide (x8_1 < (l0.length : Int)) = false := decide_eq_false c5
    clear c5
    by_cases c12 : x7_1.length < 8796093022208
    rotate_left
    ·rw [if_neg c12] at H
     exact absurd H (by simp)
    rw [if_pos c12] at H
    have LMc12 := Aside0.mk c12
    clear c12
    obtain ⟨y187, hy_⟩ : ∃ y_ : List (S90), y_ = (x7_1 ++ [(⟨a1, a2⟩ : S90)]) := ⟨_, rfl⟩
    replace H : (some y187) = some r := aq4
    have Ny187 := Aside0.mk hy_
    clear hy_
    obtain rfl := Option.some.inj H
    obtain ⟨Ao13, co13, eo13⟩ := Kd.R_slice HO_0.out
    subst eo13
    go_wp2_with (first | ((with_reducible refine gate_builtin (b := .append) (xs := #[.tmp 32, .tmp 36]) rfl ?_); at_builtin; refine Kd.R_append k90 (w0 := w0) w0.heap.size rfl (.tmp 32) (.tmp 36) 64 90 (.agg #[(.int .i64 0), (.int .i64 0)]) 16 rfl Tryd.underlying64 info90 rfl (by decide) (by omega) u7 x7_1 (⟨a1, a2⟩ : S90) [.int .i64 a1, .int .i64 a2] (fun k_ => (P0_ k_ ∨ w.heap.size ≤ k_) ∧ some k_ ≠ (.slice Ao13 l0.length co13 : Value).ownBlock) (fun _ => False) rfl rfl ?aP (fun _ hk => hk.elim) ?aF ?aO ?aB ?aS ?aL ?_; (case aP => exact k90_mkM _ _ _ (⟨a1, a2⟩ : S90)); (case aB => exact aq0); (case aF => exact (fun k_ hk => ⟨(.inr (Nat.le_trans (by first | exact HK.out.1 | exact (show Kept w _ (fun k_ => P0_ k_) from by repeat (first | (with_reducible first | exact HK.out | apply Kept.alloc | apply Kept.drewN | apply Kept.drew) | exact HK.out)).1) hk)), Kd.fresh' (Kd.R_lt aq17) k_ hk⟩)); (case aO => exact aq23); (case aS => exact (below_size aq0)); (case aL => have := LMc12.out; omega); intro v188 w14 ho hb hg hat; rw [← Ny187.out] at ho; replace HO_0 := Aside0.mk (Kd.R_after (ok := (fun k_ => (P0_ k_ ∨ w.heap.size ≤ k_))) aq17 hg hat); replace HB := Aside0.mk (hb); replace HK := Aside0.mk (Kept.of_grown (S := (fun k_ => P0_ k_)) hg aq13 (fun k_ e_ => (HO_7.out.1 k_ e_).1)); have HO189 := Aside0.mk (ho); clear HO_7; clear ho hb hg hat))
    go_ret
    exact ⟨_, aq7, by (with_reducible repeat (first | apply Kd.R_alloc | apply Kd.R_drewN | apply Kd.R_drew)); exact Kd.R_mono HO189.out (fun _ hk => hk.1), aq0, aq13⟩
   rw [if_pos c5] at H
   have c5b0 : decide (x8_1 < (l0.length : Int)) = true := decide_eq_true c5
   clear c5
   by_cases c6 : 0 ≤ x8_1
   rotate_left
   ·rw [if_neg c6] at H
    exact absurd H (by simp)
   rw [if_pos c6] at H
   have c6b0 : decide (0 ≤ x8_1) = true := decide_eq_true c6
   clear c6
   by_cases c7 : ((rd_T90 l0 x8_1).f0) = a1
   ·rw [if_pos c7] at H
    have c7b0 : (((rd_T90 l0 x8_1).f0) == a1) = true := beq_iff_eq.mpr c7
    have c7b1 : (((rd_T90 l0 x8_1).f0) != a1) = false := bne_eq_false_iff_eq.mpr c7
    clear c7
    have H' := Aside0.mk H
    clear H
    obtain ⟨Ao8, co8, eo8⟩ := Kd.R_slice HO_0.out
    subst eo8
    have p182 : 0 ≤ (x8_1 : Int) := of_decide_eq_true aq5
    have q182 : x8_1 < (l0.length : Int) := of_decide_eq_true aq5
    obtain ⟨ad182, e182, hx182_0, hx182_1⟩ := at_T90 (Kd.R_reads' HO_0.out).2.2 x8_1 p182 q182
    cases e182
    replace p182 := eq_true p182
    replace q182 := eq_true q182
    go_wp2
    go_roundg k1
    case measure => have := HK1.out; omega
    case rel => exact ⟨(x7_1), (wrap64 (x8_1 + 1)), aq2, H', ⟨aq21⟩, ⟨aq17⟩, ⟨aq23⟩, ⟨aq13⟩, ⟨aq0⟩⟩
   rw [if_neg c7] at H
   have c7b0 : (((rd_T90 l0 x8_1).f0) == a1) = false := beq_eq_false_iff_ne.mpr c7
   have c7b1 : (((rd_T90 l0 x8_1).f0) != a1) = true := bne_iff_ne.mpr c7
   by_cases c9 : x7_1.length < 8796093022208
   rotate_left
   ·rw [if_neg c9] at H
    exact absurd H (by simp)
   rw [if_pos c9] at H
   have LMc9 := Aside0.mk c9
   clear c9
   obtain ⟨y184, hy_⟩ : ∃ y_ : List (S90), y_ = (x7_1 ++ [(⟨(rd_T90 l0 x8_1).f0, (rd_T90 l0 x8_1).f1⟩ : S90)]) := ⟨_, rfl⟩
   replace H : (palingref12_Put.l0 k1 l0 a1 a2 y184 (wrap64 (x8_1 + 1))) = some r := aq4
   have Ny184 := Aside0.mk hy_
   clear hy_
   have H' := Aside0.mk H
   clear H
   obtain ⟨Ao10, co10, eo10⟩ := Kd.R_slice HO_0.out
   subst eo10
   have p182 : 0 ≤ (x8_1 : Int) := of_decide_eq_true aq5
   have q182 : x8_1 < (l0.length : Int) := of_decide_eq_true aq5
   obtain ⟨ad182, e182, hx182_0, hx182_1⟩ := at_T90 (Kd.R_reads' HO_0.out).2.2 x8_1 p182 q182
   cases e182
   replace p182 := eq_true p182
   replace q182 := eq_true q182
   have p183 : 0 ≤ (x8_1 : Int) := of_decide_eq_true aq5
   have q183 : x8_1 < (l0.length : Int) := of_decide_eq_true aq5
   obtain ⟨ad183, e183, hx183_0, hx183_1⟩ := at_T90 (Kd.R_reads' HO_0.out).2.2 x8_1 p183 q183
   obtain rfl : ad182 = ad183 := (by injection e183)
   replace p183 := eq_true p183
   replace q183 := eq_true q183
   go_wp2_with (first | ((with_reducible refine gate_builtin (b := .append) (xs := #[.tmp 25, .tmp 30]) rfl ?_); at_builtin; refine Kd.R_append k90 (w0 := w0) w0.heap.size rfl (.tmp 25) (.tmp 30) 64 90 (.agg #[(.int .i64 0), (.int .i64 0)]) 16 rfl Tryd.underlying64 info90 rfl (by decide) (by omega) u7 x7_1 (⟨(rd_T90 l0 x8_1).f0, (rd_T90 l0 x8_1).f1⟩ : S90) [.int .i64 ((rd_T90 l0 x8_1).f0), .int .i64 ((rd_T90 l0 x8_1).f1)] (fun k_ => (P0_ k_ ∨ w.heap.size ≤ k_) ∧ some k_ ≠ (.slice (some ad182) l0.length co10 : Value).ownBlock) (fun _ => False) rfl rfl ?aP (fun _ hk => hk.elim) ?aF ?aO ?aB ?aS ?aL ?_; (case aP => exact k90_mkM _ _ _ (⟨(rd_T90 l0 x8_1).f0, (rd_T90 l0 x8_1).f1⟩ : S90)); (case aB => exact aq0); (case aF => exact (fun k_ hk => ⟨(.inr (Nat.le_trans (by first | exact HK.out.1 | exact (show Kept w _ (fun k_ => P0_ k_) from by repeat (first | (with_reducible first | exact HK.out | apply Kept.alloc | apply Kept.drewN | apply Kept.drew) | exact HK.out)).1) hk)), Kd.fresh' (Kd.R_lt aq17) k_ hk⟩)); (case aO => exact aq23); (case aS => exact (below_size aq0)); (case aL => have := LMc9.out; omega); intro v185 w11 ho hb hg hat; rw [← Ny184.out] at ho; replace HO_0 := Aside0.mk (Kd.R_after (ok := (fun k_ => (P0_ k_ ∨ w.heap.size ≤ k_))) aq17 hg hat); replace HB := Aside0.mk (hb); replace HK := Aside0.mk (Kept.of_grown (S := (fun k_ => P0_ k_)) hg aq13 (fun k_ e_ => (HO_7.out.1 k_ e_).1)); have HO186 := Aside0.mk (ho); clear HO_7; clear ho hb hg hat))
   go_roundg k1
   case measure => have := HK1.out; omega
   case rel => exact ⟨(y184), (wrap64 (x8_1 + 1)), aq2, H', ⟨aq21⟩, ⟨aq17⟩, ⟨by (with_reducible repeat (first | apply Kd.R_alloc | apply Kd.R_drewN | apply Kd.R_drew)); exact HO186.out⟩, ⟨aq13⟩, ⟨aq0⟩⟩
/-! ### palingref01_div: function 86 -/
def palingref01_div.f (a0 : Int) (a1 : Int) : Option (Int) := if a1 = 0 then (some 0) else (if a1 = (-1) then (some (wrap64 (-a0))) else (some (wrap64 (Int.tdiv a0 a1))))
set_option maxHeartbeats 8000000 in
set_option maxRecDepth 100000 in
theorem palingref01_div.calls (a0 : Int) (a1 : Int) (r : Int) (w : World) (h : palingref01_div.f a0 a1 = some r) :
    Calls Tryd.prog 86 #[.int .i64 a0, .int .i64 a1] w fun e w' => e = .returned (.int .i64 r) ∧ Drawn0 w w' := by
 have H : (if a1 = 0 then (some 0) else (if a1 = (-1) then (some (wrap64 (-a0))) else (some (wrap64 (Int.tdiv a0 a1))))) = some r := h
 clear h
 by_cases c3 : a1 = 0
 ·rw [if_pos c3] at H
  have c3b0 : (a1 == 0) = true := beq_iff_eq.mpr c3
  have c3b1 : (a1 != 0) = false := bne_eq_false_iff_eq.mpr c3
  clear c3
  obtain rfl := Option.some.inj H
  go_enter Tryd.func86, Tryd.ntmps86
  go_wp2
  go_ret
  exact ⟨aq2, aq3⟩
 rw [if_neg c3] at H
 have c3b0 : (a1 == 0) = false := beq_eq_false_iff_ne.mpr c3
 have c3b1 : (a1 != 0) = true := bne_iff_ne.mpr c3
 by_cases c4 : a1 = (-1)
 rotate_left
 ·rw [if_neg c4] at H
  have c4b0 : (a1 == (-1)) = false := beq_eq_false_iff_ne.mpr c4
  have c4b1 : (a1 != (-1)) = true := bne_iff_ne.mpr c4
  obtain rfl := Option.some.inj H
  go_enter Tryd.func86, Tryd.ntmps86
  go_wp2
  go_ret
  exact ⟨aq2, aq3⟩
 rw [if_pos c4] at H
 have c4b0 : (a1 == (-1)) = true := beq_iff_eq.mpr c4
 have c4b1 : (a1 != (-1)) = false := bne_eq_false_iff_eq.mpr c4
 clear c4
 obtain rfl := Option.some.inj H
 go_enter Tryd.func86, Tryd.ntmps86
 go_wp2
 go_ret
 exact ⟨aq2, aq3⟩
/-! ### palingref01_shift: function 87 -/
def palingref01_shift.l0 : Nat → Int → Bool → Int → Int → Option (Int)
  | 0, _, _, _, _ => none
  | k + 1, x0, x2, x7, x8 => if x8 < x7 then (if x2 = true then (palingref01_shift.l0 k (wrap64 (x0 * 2)) x2 x7 (wrap64 (x8 + 1))) else (if x0 < 0 then (if (Int.tmod x0 2) = 0 then (palingref01_shift.l0 k (wrap64 (Int.tdiv x0 2)) x2 x7 (wrap64 (x8 + 1))) else (palingref01_shift.l0 k (wrap64 ((wrap64 (Int.tdiv x0 2)) - 1)) x2 x7 (wrap64 (x8 + 1)))) else (palingref01_shift.l0 k (wrap64 (Int.tdiv x0 2)) x2 x7 (wrap64 (x8 + 1))))) else (some x0)
def palingref01_shift.f (k : Nat) (a0 : Int) (a1 : Int) (a2 : Bool) : Option (Int) := palingref01_shift.l0 k a0 a2 (wrap64 (Int.tmod (IntKind.u64.wrap (a1)) 64)) 0
theorem palingref01_shift.mono_l : ∀ k, (∀ y0 y1 y2 y3, LeO (palingref01_shift.l0 k y0 y1 y2 y3) (palingref01_shift.l0 (k + 1) y0 y1 y2 y3))
  | 0 => fun _ _ _ _ r h => by simp [palingref01_shift.l0] at h
  | k + 1 => by
    have ih0 := palingref01_shift.mono_l k
    intros <;> unfold palingref01_shift.l0 <;> repeat' (first | (with_reducible first | exact ih0 _ _ _ _ | exact LeO.refl _ | exact LeO.none _ | refine LeO.ite ?_ ?_ | refine LeO.bind ?_ (fun _ => ?_)) | exact ih0 _ _ _ _ | exact LeO.none _ | refine LeO.ite ?_ ?_ | refine LeO.bind ?_ (fun _ => ?_))
theorem palingref01_shift.mono : ∀ a0 a1 a2 k, LeO (palingref01_shift.f k a0 a1 a2) (palingref01_shift.f (k + 1) a0 a1 a2) := by
 intro a0 a1 a2 k
 have ih0 := palingref01_shift.mono_l k
 unfold palingref01_shift.f
 repeat' (first | (with_reducible first | exact ih0 _ _ _ _ | exact LeO.refl _ | exact LeO.none _ | refine LeO.ite ?_ ?_ | refine LeO.bind ?_ (fun _ => ?_)) | exact ih0 _ _ _ _ | exact LeO.none _ | refine LeO.ite ?_ ?_ | refine LeO.bind ?_ (fun _ => ?_))
set_option maxHeartbeats 8000000 in
set_option maxRecDepth 100000 in
theorem palingref01_shift.calls (k : Nat) (a0 : Int) (a1 : Int) (a2 : Bool) (r : Int) (w : World) (h : palingref01_shift.f k a0 a1 a2 = some r) :
    Calls Tryd.prog 87 #[.int .i64 a0, .int .i64 a1, .bool a2] w fun e w' => e = .returned (.int .i64 r) ∧ Drawn0 w w' := by
 have H : (palingref01_shift.l0 k a0 a2 (wrap64 (Int.tmod (IntKind.u64.wrap (a1)) 64)) 0) = some r := h
 clear h
 have H' := Aside0.mk H
 clear H
 go_enter Tryd.func87, Tryd.ntmps87
 go_wp2
 go_loopg [0, 8] k (fun kq v0 v8 w' => ∃ (x0_1 : Int) (x8_1 : Int), v0 = .int .i64 x0_1 ∧ v8 = .int .i64 x8_1 ∧ Aside0 (palingref01_shift.l0 kq x0_1 a2 (wrap64 (Int.tmod (IntKind.u64.wrap (a1)) 64)) x8_1 = some r) ∧ Aside0 (kq ≤ k) ∧ Drawn0 w w')
 case atStart => exact ⟨(a0), (0), aq2, aq2, H', ⟨Nat.le_refl _⟩, aq3⟩
 case round =>
  clear H'
  obtain ⟨x0_1, x8_1, rfl, rfl, HA, HK1, ⟨m1, rfl⟩⟩ := hrel
  cases gk with
  | zero => exact absurd HA.out (by simp [palingref01_shift.l0])
  | succ k1 =>
   have H := HA.out
   clear HA
   simp only [palingref01_shift.l0] at H
   by_cases c4 : x8_1 < (wrap64 (Int.tmod (IntKind.u64.wrap (a1)) 64))
   rotate_left
   ·rw [if_neg c4] at H
    have c4b0 : decide (x8_1 < (wrap64 (Int.tmod (IntKind.u64.wrap (a1)) 64))) = false := decide_eq_false c4
    clear c4
    obtain rfl := Option.some.inj H
    go_wp2
    go_ret
    exact ⟨aq2, aq3⟩
   rw [if_pos c4] at H
   have c4b0 : decide (x8_1 < (wrap64 (Int.tmod (IntKind.u64.wrap (a1)) 64))) = true := decide_eq_true c4
   clear c4
   by_cases c5 : a2 = true
   ·subst c5
    rw [if_pos rfl] at H
    have H' := Aside0.mk H
    clear H
    go_wp2
    go_roundg k1
    case measure => have := HK1.out; omega
    case rel => exact ⟨(wrap64 (x0_1 * 2)), (wrap64 (x8_1 + 1)), aq2, aq2, H', ⟨aq21⟩, aq3⟩
   replace c5 := Bool.eq_false_iff.mpr c5
   subst c5
   rw [if_neg nf_] at H
   by_cases c6 : x0_1 < 0
   rotate_left
   ·rw [if_neg c6] at H
    have c6b0 : decide (x0_1 < 0) = false := decide_eq_false c6
    clear c6
    have H' := Aside0.mk H
    clear H
    go_wp2
    go_roundg k1
    case measure => have := HK1.out; omega
    case rel => exact ⟨(wrap64 (Int.tdiv x0_1 2)), (wrap64 (x8_1 + 1)), aq2, aq2, H', ⟨aq21⟩, aq3⟩
   rw [if_pos c6] at H
   have c6b0 : decide (x0_1 < 0) = true := decide_eq_true c6
   clear c6
   by_cases c7 : (Int.tmod x0_1 2) = 0
   rotate_left
   ·rw [if_neg c7] at H
    have c7b0 : ((Int.tmod x0_1 2) == 0) = false := beq_eq_false_iff_ne.mpr c7
    have c7b1 : ((Int.tmod x0_1 2) != 0) = true := bne_iff_ne.mpr c7
    have H' := Aside0.mk H
    clear H
    go_wp2
    go_roundg k1
    case measure => have := HK1.out; omega
    case rel => exact ⟨(wrap64 ((wrap64 (Int.tdiv x0_1 2)) - 1)), (wrap64 (x8_1 + 1)), aq2, aq2, H', ⟨aq21⟩, aq3⟩
   rw [if_pos c7] at H
   have c7b0 : ((Int.tmod x0_1 2) == 0) = true := beq_iff_eq.mpr c7
   have c7b1 : ((Int.tmod x0_1 2) != 0) = false := bne_eq_false_iff_eq.mpr c7
   clear c7
   have H' := Aside0.mk H
   clear H
   go_wp2
   go_roundg k1
   case measure => have := HK1.out; omega
   case rel => exact ⟨(wrap64 (Int.tdiv x0_1 2)), (wrap64 (x8_1 + 1)), aq2, aq2, H', ⟨aq21⟩, aq3⟩
/-! ### palingref01_one: function 88 -/
def palingref01_one.f (a0 : Bool) : Option (Int) := if a0 = true then (some 1) else (some 0)
set_option maxHeartbeats 8000000 in
set_option maxRecDepth 100000 in
theorem palingref01_one.calls (a0 : Bool) (r : Int) (w : World) (h : palingref01_one.f a0 = some r) :
    Calls Tryd.prog 88 #[.bool a0] w fun e w' => e = .returned (.int .i64 r) ∧ Drawn0 w w' := by
 have H : (if a0 = true then (some 1) else (some 0)) = some r := h
 clear h
 by_cases c2 : a0 = true
 ·subst c2
  rw [if_pos rfl] at H
  obtain rfl := Option.some.inj H
  go_enter Tryd.func88, Tryd.ntmps88
  go_wp2
  go_ret
  exact ⟨aq2, aq3⟩
 replace c2 := Bool.eq_false_iff.mpr c2
 subst c2
 rw [if_neg nf_] at H
 obtain rfl := Option.some.inj H
 go_enter Tryd.func88, Tryd.ntmps88
 go_wp2
 go_ret
 exact ⟨aq2, aq3⟩
/-! ### palingref01_Eval: function 77 -/
def palingref01_Eval.j0 : Nat → Int → Int → Int → Int → Bool → Option (Int)
  | 0, _, _, _, _, _ => none
  | k + 1, x0, x1, x2, x7, x52 => if x52 = true then ((palingref01_shift.f k x1 x2 (x0 == 8)).bind fun t192 => (some t192)) else (if x7 = 10 then ((palingref01_one.f (x1 == x2)).bind fun t193 => (some t193)) else (if x7 = 11 then ((palingref01_one.f (x1 != x2)).bind fun t194 => (some t194)) else (if x7 = 12 then ((palingref01_one.f (decide (x1 < x2))).bind fun t195 => (some t195)) else (if x7 = 13 then ((palingref01_one.f (decide (x1 ≤ x2))).bind fun t196 => (some t196)) else (if x7 = 14 then ((palingref01_one.f (decide (x1 > x2))).bind fun t197 => (some t197)) else (if x7 = 15 then ((palingref01_one.f (decide (x1 ≥ x2))).bind fun t198 => (some t198)) else (if x7 = 16 then ((palingref01_one.f (decide ((IntKind.u64.wrap (x1)) < (IntKind.u64.wrap (x2))))).bind fun t199 => (some t199)) else (if x7 = 17 then (if x1 = 0 then ((palingref01_one.f false).bind fun t200 => (some t200)) else ((palingref01_one.f (x2 != 0)).bind fun t201 => (some t201))) else (if x7 = 18 then (if x1 = 0 then ((palingref01_one.f (x2 != 0)).bind fun t202 => (some t202)) else ((palingref01_one.f true).bind fun t203 => (some t203))) else (some 0))))))))))
def palingref01_Eval.f (k : Nat) (a0 : Int) (a1 : Int) (a2 : Int) : Option (Int) := if a0 = 0 then (some (wrap64 (a1 + a2))) else (if a0 = 1 then (some (wrap64 (a1 - a2))) else (if a0 = 2 then (some (wrap64 (a1 * a2))) else (if a0 = 3 then ((palingref01_div.f a1 a2).bind fun t190 => (some t190)) else (if a0 = 4 then ((palingref01_div.f a1 a2).bind fun t191 => (some (wrap64 (a1 - (wrap64 (a2 * t191)))))) else (if a0 = 5 then (some (Go.bits .and .i64 a1 a2)) else (if a0 = 6 then (some (Go.bits .or .i64 a1 a2)) else (if a0 = 7 then (some (Go.bits .xor .i64 a1 a2)) else (if a0 = 8 then (palingref01_Eval.j0 k a0 a1 a2 a0 (a0 == 8)) else (palingref01_Eval.j0 k a0 a1 a2 a0 (a0 == 9))))))))))
theorem palingref01_Eval.mono_l : ∀ k, (∀ y0 y1 y2 y3 y4, LeO (palingref01_Eval.j0 k y0 y1 y2 y3 y4) (palingref01_Eval.j0 (k + 1) y0 y1 y2 y3 y4))
  | 0 => fun _ _ _ _ _ r h => by simp [palingref01_Eval.j0] at h
  | k + 1 => by
    have ih0 := palingref01_Eval.mono_l k
    intros <;> unfold palingref01_Eval.j0 <;> repeat' (first | (with_reducible first | exact ih0 _ _ _ _ _ | exact palingref01_shift.mono _ _ _ _ | exact LeO.refl _ | exact LeO.none _ | refine LeO.ite ?_ ?_ | refine LeO.bind ?_ (fun _ => ?_)) | exact ih0 _ _ _ _ _ | exact palingref01_shift.mono _ _ _ _ | exact LeO.none _ | refine LeO.ite ?_ ?_ | refine LeO.bind ?_ (fun _ => ?_))
theorem palingref01_Eval.mono : ∀ a0 a1 a2 k, LeO (palingref01_Eval.f k a0 a1 a2) (palingref01_Eval.f (k + 1) a0 a1 a2) := by
 intro a0 a1 a2 k
 have ih0 := palingref01_Eval.mono_l k
 unfold palingref01_Eval.f
 repeat' (first | (with_reducible first | exact ih0 _ _ _ _ _ | exact palingref01_shift.mono _ _ _ _ | exact LeO.refl _ | exact LeO.none _ | refine LeO.ite ?_ ?_ | refine LeO.bind ?_ (fun _ => ?_)) | exact ih0 _ _ _ _ _ | exact palingref01_shift.mono _ _ _ _ | exact LeO.none _ | refine LeO.ite ?_ ?_ | refine LeO.bind ?_ (fun _ => ?_))
set_option maxHeartbeats 8000000 in
set_option maxRecDepth 100000 in
theorem palingref01_Eval.calls (k : Nat) (a0 : Int) (a1 : Int) (a2 : Int) (r : Int) (w : World) (h : palingref01_Eval.f k a0 a1 a2 = some r) :
    Calls Tryd.prog 77 #[.int .i64 a0, .int .i64 a1, .int .i64 a2] w fun e w' => e = .returned (.int .i64 r) ∧ Drawn0 w w' := by
 have H : (if a0 = 0 then (some (wrap64 (a1 + a2))) else (if a0 = 1 then (some (wrap64 (a1 - a2))) else (if a0 = 2 then (some (wrap64 (a1 * a2))) else (if a0 = 3 then ((palingref01_div.f a1 a2).bind fun t190 => (some t190)) else (if a0 = 4 then ((palingref01_div.f a1 a2).bind fun t191 => (some (wrap64 (a1 - (wrap64 (a2 * t191)))))) else (if a0 = 5 then (some (Go.bits .and .i64 a1 a2)) else (if a0 = 6 then (some (Go.bits .or .i64 a1 a2)) else (if a0 = 7 then (some (Go.bits .xor .i64 a1 a2)) else (if a0 = 8 then (palingref01_Eval.j0 k a0 a1 a2 a0 (a0 == 8)) else (palingref01_Eval.j0 k a0 a1 a2 a0 (a0 == 9))))))))))) = some r := h
 clear h
 by_cases c4 : a0 = 0
 ·rw [if_pos c4] at H
  have c4b0 : (a0 == 0) = true := beq_iff_eq.mpr c4
  have c4b1 : (a0 != 0) = false := bne_eq_false_iff_eq.mpr c4
  clear c4
  obtain rfl := Option.some.inj H
  go_enter Tryd.func77, Tryd.ntmps77
  go_wp2
  go_ret
  exact ⟨aq2, aq3⟩
 rw [if_neg c4] at H
 have c4b0 : (a0 == 0) = false := beq_eq_false_iff_ne.mpr c4
 have c4b1 : (a0 != 0) = true := bne_iff_ne.mpr c4
 by_cases c5 : a0 = 1
 ·rw [if_pos c5] at H
  have c5b0 : (a0 == 1) = true := beq_iff_eq.mpr c5
  have c5b1 : (a0 != 1) = false := bne_eq_false_iff_eq.mpr c5
  clear c5
  obtain rfl := Option.some.inj H
  go_enter Tryd.func77, Tryd.ntmps77
  go_wp2
  go_ret
  exact ⟨aq2, aq3⟩
 rw [if_neg c5] at H
 have c5b0 : (a0 == 1) = false := beq_eq_false_iff_ne.mpr c5
 have c5b1 : (a0 != 1) = true := bne_iff_ne.mpr c5
 by_cases c6 : a0 = 2
 ·rw [if_pos c6] at H
  have c6b0 : (a0 == 2) = true := beq_iff_eq.mpr c6
  have c6b1 : (a0 != 2) = false := bne_eq_false_iff_eq.mpr c6
  clear c6
  obtain rfl := Option.some.inj H
  go_enter Tryd.func77, Tryd.ntmps77
  go_wp2
  go_ret
  exact ⟨aq2, aq3⟩
 rw [if_neg c6] at H
 have c6b0 : (a0 == 2) = false := beq_eq_false_iff_ne.mpr c6
 have c6b1 : (a0 != 2) = true := bne_iff_ne.mpr c6
 by_cases c7 : a0 = 3
 ·rw [if_pos c7] at H
  have c7b0 : (a0 == 3) = true := beq_iff_eq.mpr c7
  have c7b1 : (a0 != 3) = false := bne_eq_false_iff_eq.mpr c7
  clear c7
  obtain ⟨t190, A8, H⟩ := bS_ H
  obtain rfl := Option.some.inj H
  go_enter Tryd.func77, Tryd.ntmps77
  go_wp2_with (first | ((with_reducible refine gate_callee (f := 86) rfl ?_); refine goesL_ (some 27) rfl rfl Tryd.func86 (by kernel_rfl) rfl #[.int .i64 a1, .int .i64 a2] rfl aq1 ?_; (with_reducible refine (palingref01_div.calls a1 a2 t190 _ A8.out).mono ?_); rintro e w' ⟨rfl, ⟨nd, rfl⟩⟩; refine ⟨_, rfl, ?_⟩))
  go_ret
  exact ⟨aq2, aq3⟩
 rw [if_neg c7] at H
 have c7b0 : (a0 == 3) = false := beq_eq_false_iff_ne.mpr c7
 have c7b1 : (a0 != 3) = true := bne_iff_ne.mpr c7
 by_cases c9 : a0 = 4
 ·rw [if_pos c9] at H
  have c9b0 : (a0 == 4) = true := beq_iff_eq.mpr c9
  have c9b1 : (a0 != 4) = false := bne_eq_false_iff_eq.mpr c9
  clear c9
  obtain ⟨t191, A10, H⟩ := bS_ H
  obtain rfl := Option.some.inj H
  go_enter Tryd.func77, Tryd.ntmps77
  go_wp2_with (first | ((with_reducible refine gate_callee (f := 86) rfl ?_); refine goesL_ (some 34) rfl rfl Tryd.func86 (by kernel_rfl) rfl #[.int .i64 a1, .int .i64 a2] rfl aq1 ?_; (with_reducible refine (palingref01_div.calls a1 a2 t191 _ A10.out).mono ?_); rintro e w' ⟨rfl, ⟨nd, rfl⟩⟩; refine ⟨_, rfl, ?_⟩))
  go_ret
  exact ⟨aq2, aq3⟩
 rw [if_neg c9] at H
 have c9b0 : (a0 == 4) = false := beq_eq_false_iff_ne.mpr c9
 have c9b1 : (a0 != 4) = true := bne_iff_ne.mpr c9
 by_cases c11 : a0 = 5
 ·rw [if_pos c11] at H
  have c11b0 : (a0 == 5) = true := beq_iff_eq.mpr c11
  have c11b1 : (a0 != 5) = false := bne_eq_false_iff_eq.mpr c11
  clear c11
  obtain rfl := Option.some.inj H
  go_enter Tryd.func77, Tryd.ntmps77
  go_wp2
  go_ret
  exact ⟨aq2, aq3⟩
 rw [if_neg c11] at H
 have c11b0 : (a0 == 5) = false := beq_eq_false_iff_ne.mpr c11
 have c11b1 : (a0 != 5) = true := bne_iff_ne.mpr c11
 by_cases c12 : a0 = 6
 ·rw [if_pos c12] at H
  have c12b0 : (a0 == 6) = true := beq_iff_eq.mpr c12
  have c12b1 : (a0 != 6) = false := bne_eq_false_iff_eq.mpr c12
  clear c12
  obtain rfl := Option.some.inj H
  go_enter Tryd.func77, Tryd.ntmps77
  go_wp2
  go_ret
  exact ⟨aq2, aq3⟩
 rw [if_neg c12] at H
 have c12b0 : (a0 == 6) = false := beq_eq_false_iff_ne.mpr c12
 have c12b1 : (a0 != 6) = true := bne_iff_ne.mpr c12
 by_cases c13 : a0 = 7
 ·rw [if_pos c13] at H
  have c13b0 : (a0 == 7) = true := beq_iff_eq.mpr c13
  have c13b1 : (a0 != 7) = false := bne_eq_false_iff_eq.mpr c13
  clear c13
  obtain rfl := Option.some.inj H
  go_enter Tryd.func77, Tryd.ntmps77
  go_wp2
  go_ret
  exact ⟨aq2, aq3⟩
 rw [if_neg c13] at H
 have c13b0 : (a0 == 7) = false := beq_eq_false_iff_ne.mpr c13
 have c13b1 : (a0 != 7) = true := bne_iff_ne.mpr c13
 have HC14 := Aside0.mk H
 clear H
 go_enter Tryd.func77, Tryd.ntmps77
 go_upto_if 52 with (fail)
 go_cut [52] (fun v52 wc => ∃ (kq : Nat) (x52_13 : Bool), v52 = .bool x52_13 ∧ Aside0 (palingref01_Eval.j0 kq a0 a1 a2 a0 x52_13 = some r) ∧ Aside0 (kq ≤ k) ∧ Drawn0 w wc)
 case first =>
  have H := HC14.out
  clear HC14
  by_cases c15 : a0 = 8
  rotate_left
  ·rw [if_neg c15] at H
   have c15b0 : (a0 == 8) = false := beq_eq_false_iff_ne.mpr c15
   have c15b1 : (a0 != 8) = true := bne_iff_ne.mpr c15
   (first | rw [c15b0] | (simp only [i64_w, i32_w]; rw [c15b0]) | skip)
   have H' := Aside0.mk H
   clear H
   go_wp2
   go_meet
   case rel => exact ⟨_, ((a0 == 9)), aq2, H', ⟨aq24⟩, aq3⟩
  rw [if_pos c15] at H
  have c15b0 : (a0 == 8) = true := beq_iff_eq.mpr c15
  have c15b1 : (a0 != 8) = false := bne_eq_false_iff_eq.mpr c15
  clear c15
  (first | rw [c15b0] | (simp only [i64_w, i32_w]; rw [c15b0]) | skip)
  have H' := Aside0.mk H
  clear H
  go_wp2
  go_meet
  case rel => exact ⟨_, ((a0 == 8)), aq2, H', ⟨aq24⟩, aq3⟩
 case rest =>
  clear HC14
  obtain ⟨kq, x52_13, rfl, HA, HJ13, ⟨mc13, rfl⟩⟩ := hcut
  cases kq with
  | zero => exact absurd HA.out (by simp [palingref01_Eval.j0])
  | succ kj13 =>
   have H := HA.out
   clear HA
   simp only [palingref01_Eval.j0] at H
   by_cases c16 : x52_13 = true
   ·subst c16
    rw [if_pos rfl] at H
    obtain ⟨t192, A17, H⟩ := bS_ H
    obtain rfl := Option.some.inj H
    go_wp2_with (first | ((with_reducible refine gate_callee (f := 87) rfl ?_); refine goesL_ (some 59) rfl rfl Tryd.func87 (by kernel_rfl) rfl #[.int .i64 a1, .int .i64 a2, .bool (a0 == 8)] rfl aq1 ?_; (with_reducible refine (palingref01_shift.calls kj13 a1 a2 (a0 == 8) t192 _ A17.out).mono ?_); rintro e w' ⟨rfl, ⟨nd, rfl⟩⟩; refine ⟨_, rfl, ?_⟩))
    go_ret
    exact ⟨aq2, aq3⟩
   replace c16 := Bool.eq_false_iff.mpr c16
   subst c16
   rw [if_neg nf_] at H
   by_cases c18 : a0 = 10
   ·rw [if_pos c18] at H
    have c18b0 : (a0 == 10) = true := beq_iff_eq.mpr c18
    have c18b1 : (a0 != 10) = false := bne_eq_false_iff_eq.mpr c18
    clear c18
    obtain ⟨t193, A19, H⟩ := bS_ H
    obtain rfl := Option.some.inj H
    go_wp2_with (first | ((with_reducible refine gate_callee (f := 88) rfl ?_); refine goesL_ (some 65) rfl rfl Tryd.func88 (by kernel_rfl) rfl #[.bool (a1 == a2)] rfl aq1 ?_; (with_reducible refine (palingref01_one.calls (a1 == a2) t193 _ A19.out).mono ?_); rintro e w' ⟨rfl, ⟨nd, rfl⟩⟩; refine ⟨_, rfl, ?_⟩))
    go_ret
    exact ⟨aq2, aq3⟩
   rw [if_neg c18] at H
   have c18b0 : (a0 == 10) = false := beq_eq_false_iff_ne.mpr c18
   have c18b1 : (a0 != 10) = true := bne_iff_ne.mpr c18
   by_cases c20 : a0 = 11
   ·rw [if_pos c20] at H
    have c20b0 : (a0 == 11) = true := beq_iff_eq.mpr c20
    have c20b1 : (a0 != 11) = false := bne_eq_false_iff_eq.mpr c20
    clear c20
    obtain ⟨t194, A21, H⟩ := bS_ H
    obtain rfl := Option.some.inj H
    go_wp2_with (first | ((with_reducible refine gate_callee (f := 88) rfl ?_); refine goesL_ (some 71) rfl rfl Tryd.func88 (by kernel_rfl) rfl #[.bool (a1 != a2)] rfl aq1 ?_; (with_reducible refine (palingref01_one.calls (a1 != a2) t194 _ A21.out).mono ?_); rintro e w' ⟨rfl, ⟨nd, rfl⟩⟩; refine ⟨_, rfl, ?_⟩))
    go_ret
    exact ⟨aq2, aq3⟩
   rw [if_neg c20] at H
   have c20b0 : (a0 == 11) = false := beq_eq_false_iff_ne.mpr c20
   have c20b1 : (a0 != 11) = true := bne_iff_ne.mpr c20
   by_cases c22 : a0 = 12
   ·rw [if_pos c22] at H
    have c22b0 : (a0 == 12) = true := beq_iff_eq.mpr c22
    have c22b1 : (a0 != 12) = false := bne_eq_false_iff_eq.mpr c22
    clear c22
    obtain ⟨t195, A23, H⟩ := bS_ H
    obtain rfl := Option.some.inj H
    go_wp2_with (first | ((with_reducible refine gate_callee (f := 88) rfl ?_); refine goesL_ (some 77) rfl rfl Tryd.func88 (by kernel_rfl) rfl #[.bool (decide (a1 < a2))] rfl aq1 ?_; (with_reducible refine (palingref01_one.calls (decide (a1 < a2)) t195 _ A23.out).mono ?_); rintro e w' ⟨rfl, ⟨nd, rfl⟩⟩; refine ⟨_, rfl, ?_⟩))
    go_ret
    exact ⟨aq2, aq3⟩
   rw [if_neg c22] at H
   have c22b0 : (a0 == 12) = false := beq_eq_false_iff_ne.mpr c22
   have c22b1 : (a0 != 12) = true := bne_iff_ne.mpr c22
   by_cases c24 : a0 = 13
   ·rw [if_pos c24] at H
    have c24b0 : (a0 == 13) = true := beq_iff_eq.mpr c24
    have c24b1 : (a0 != 13) = false := bne_eq_false_iff_eq.mpr c24
    clear c24
    obtain ⟨t196, A25, H⟩ := bS_ H
    obtain rfl := Option.some.inj H
    go_wp2_with (first | ((with_reducible refine gate_callee (f := 88) rfl ?_); refine goesL_ (some 83) rfl rfl Tryd.func88 (by kernel_rfl) rfl #[.bool (decide (a1 ≤ a2))] rfl aq1 ?_; (with_reducible refine (palingref01_one.calls (decide (a1 ≤ a2)) t196 _ A25.out).mono ?_); rintro e w' ⟨rfl, ⟨nd, rfl⟩⟩; refine ⟨_, rfl, ?_⟩))
    go_ret
    exact ⟨aq2, aq3⟩
   rw [if_neg c24] at H
   have c24b0 : (a0 == 13) = false := beq_eq_false_iff_ne.mpr c24
   have c24b1 : (a0 != 13) = true := bne_iff_ne.mpr c24
   by_cases c26 : a0 = 14
   ·rw [if_pos c26] at H
    have c26b0 : (a0 == 14) = true := beq_iff_eq.mpr c26
    have c26b1 : (a0 != 14) = false := bne_eq_false_iff_eq.mpr c26
    clear c26
    obtain ⟨t197, A27, H⟩ := bS_ H
    obtain rfl := Option.some.inj H
    go_wp2_with (first | ((with_reducible refine gate_callee (f := 88) rfl ?_); refine goesL_ (some 89) rfl rfl Tryd.func88 (by kernel_rfl) rfl #[.bool (decide (a1 > a2))] rfl aq1 ?_; (with_reducible refine (palingref01_one.calls (decide (a1 > a2)) t197 _ A27.out).mono ?_); rintro e w' ⟨rfl, ⟨nd, rfl⟩⟩; refine ⟨_, rfl, ?_⟩))
    go_ret
    exact ⟨aq2, aq3⟩
   rw [if_neg c26] at H
   have c26b0 : (a0 == 14) = false := beq_eq_false_iff_ne.mpr c26
   have c26b1 : (a0 != 14) = true := bne_iff_ne.mpr c26
   by_cases c28 : a0 = 15
   ·rw [if_pos c28] at H
    have c28b0 : (a0 == 15) = true := beq_iff_eq.mpr c28
    have c28b1 : (a0 != 15) = false := bne_eq_false_iff_eq.mpr c28
    clear c28
    obtain ⟨t198, A29, H⟩ := bS_ H
    obtain rfl := Option.some.inj H
    go_wp2_with (first | ((with_reducible refine gate_callee (f := 88) rfl ?_); refine goesL_ (some 95) rfl rfl Tryd.func88 (by kernel_rfl) rfl #[.bool (decide (a1 ≥ a2))] rfl aq1 ?_; (with_reducible refine (palingref01_one.calls (decide (a1 ≥ a2)) t198 _ A29.out).mono ?_); rintro e w' ⟨rfl, ⟨nd, rfl⟩⟩; refine ⟨_, rfl, ?_⟩))
    go_ret
    exact ⟨aq2, aq3⟩
   rw [if_neg c28] at H
   have c28b0 : (a0 == 15) = false := beq_eq_false_iff_ne.mpr c28
   have c28b1 : (a0 != 15) = true := bne_iff_ne.mpr c28
   by_cases c30 : a0 = 16
   ·rw [if_pos c30] at H
    have c30b0 : (a0 == 16) = true := beq_iff_eq.mpr c30
    have c30b1 : (a0 != 16) = false := bne_eq_false_iff_eq.mpr c30
    clear c30
    obtain ⟨t199, A31, H⟩ := bS_ H
    obtain rfl := Option.some.inj H
    go_wp2_with (first | ((with_reducible refine gate_callee (f := 88) rfl ?_); refine goesL_ (some 103) rfl rfl Tryd.func88 (by kernel_rfl) rfl #[.bool (decide ((IntKind.u64.wrap (a1)) < (IntKind.u64.wrap (a2))))] rfl aq1 ?_; (with_reducible refine (palingref01_one.calls (decide ((IntKind.u64.wrap (a1)) < (IntKind.u64.wrap (a2)))) t199 _ A31.out).mono ?_); rintro e w' ⟨rfl, ⟨nd, rfl⟩⟩; refine ⟨_, rfl, ?_⟩))
    go_ret
    exact ⟨aq2, aq3⟩
   rw [if_neg c30] at H
   have c30b0 : (a0 == 16) = false := beq_eq_false_iff_ne.mpr c30
   have c30b1 : (a0 != 16) = true := bne_iff_ne.mpr c30
   by_cases c32 : a0 = 17
   ·rw [if_pos c32] at H
    have c32b0 : (a0 == 17) = true := beq_iff_eq.mpr c32
    have c32b1 : (a0 != 17) = false := bne_eq_false_iff_eq.mpr c32
    clear c32
    by_cases c33 : a1 = 0
    rotate_left
    ·rw [if_neg c33] at H
     have c33b0 : (a1 == 0) = false := beq_eq_false_iff_ne.mpr c33
     have c33b1 : (a1 != 0) = true := bne_iff_ne.mpr c33
     obtain ⟨t201, A35, H⟩ := bS_ H
     obtain rfl := Option.some.inj H
     go_wp2_with (first | ((with_reducible refine gate_callee (f := 88) rfl ?_); refine goesL_ (some 112) rfl rfl Tryd.func88 (by kernel_rfl) rfl #[.bool (a2 != 0)] rfl aq1 ?_; (with_reducible refine (palingref01_one.calls (a2 != 0) t201 _ A35.out).mono ?_); rintro e w' ⟨rfl, ⟨nd, rfl⟩⟩; refine ⟨_, rfl, ?_⟩))
     go_ret
     exact ⟨aq2, aq3⟩
    rw [if_pos c33] at H
    have c33b0 : (a1 == 0) = true := beq_iff_eq.mpr c33
    have c33b1 : (a1 != 0) = false := bne_eq_false_iff_eq.mpr c33
    clear c33
    obtain ⟨t200, A34, H⟩ := bS_ H
    obtain rfl := Option.some.inj H
    go_wp2_with (first | ((with_reducible refine gate_callee (f := 88) rfl ?_); refine goesL_ (some 112) rfl rfl Tryd.func88 (by kernel_rfl) rfl #[.bool false] rfl aq1 ?_; (with_reducible refine (palingref01_one.calls false t200 _ A34.out).mono ?_); rintro e w' ⟨rfl, ⟨nd, rfl⟩⟩; refine ⟨_, rfl, ?_⟩))
    go_ret
    exact ⟨aq2, aq3⟩
   rw [if_neg c32] at H
   have c32b0 : (a0 == 17) = false := beq_eq_false_iff_ne.mpr c32
   have c32b1 : (a0 != 17) = true := bne_iff_ne.mpr c32
   by_cases c36 : a0 = 18
   rotate_left
   ·rw [if_neg c36] at H
    have c36b0 : (a0 == 18) = false := beq_eq_false_iff_ne.mpr c36
    have c36b1 : (a0 != 18) = true := bne_iff_ne.mpr c36
    obtain rfl := Option.some.inj H
    go_wp2
    go_ret
    exact ⟨aq2, aq3⟩
   rw [if_pos c36] at H
   have c36b0 : (a0 == 18) = true := beq_iff_eq.mpr c36
   have c36b1 : (a0 != 18) = false := bne_eq_false_iff_eq.mpr c36
   clear c36
   by_cases c37 : a1 = 0
   rotate_left
   ·rw [if_neg c37] at H
    have c37b0 : (a1 == 0) = false := beq_eq_false_iff_ne.mpr c37
    have c37b1 : (a1 != 0) = true := bne_iff_ne.mpr c37
    obtain ⟨t203, A39, H⟩ := bS_ H
    obtain rfl := Option.some.inj H
    go_wp2_with (first | ((with_reducible refine gate_callee (f := 88) rfl ?_); refine goesL_ (some 121) rfl rfl Tryd.func88 (by kernel_rfl) rfl #[.bool true] rfl aq1 ?_; (with_reducible refine (palingref01_one.calls true t203 _ A39.out).mono ?_); rintro e w' ⟨rfl, ⟨nd, rfl⟩⟩; refine ⟨_, rfl, ?_⟩))
    go_ret
    exact ⟨aq2, aq3⟩
   rw [if_pos c37] at H
   have c37b0 : (a1 == 0) = true := beq_iff_eq.mpr c37
   have c37b1 : (a1 != 0) = false := bne_eq_false_iff_eq.mpr c37
   clear c37
   obtain ⟨t202, A38, H⟩ := bS_ H
   obtain rfl := Option.some.inj H
   go_wp2_with (first | ((with_reducible refine gate_callee (f := 88) rfl ?_); refine goesL_ (some 121) rfl rfl Tryd.func88 (by kernel_rfl) rfl #[.bool (a2 != 0)] rfl aq1 ?_; (with_reducible refine (palingref01_one.calls (a2 != 0) t202 _ A38.out).mono ?_); rintro e w' ⟨rfl, ⟨nd, rfl⟩⟩; refine ⟨_, rfl, ?_⟩))
   go_ret
   exact ⟨aq2, aq3⟩
end Go.Proofs.YtdopacgaklaaeaaDoor.PDeadRuns
