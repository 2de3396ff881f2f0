-- Written by print2.py over the kit's printer. Not trusted: Lean checks it.
import Derived.Test.YtdopacgaklaaeaaDoorPDeadTellshqq
import Derived.Test.YtdopacgaklaaeaaDoorPDeadTellsx0
import Derived.Test.YtdopacgaklaaeaaDoorPDeadTellsx7
namespace Go.Proofs.YtdopacgaklaaeaaDoor.PDeadTells
open Go.RowKit Go.Proofs.YtdopacgaklaaeaaDoorW.PrintWords Go.Proofs.YtdopacgaklaaeaaDoorW.PrintLast Go.Proofs.YtdopacgaklaaeaaDoorW.PrintMore
attribute [local go_sem] max2_int min2_int max_two min_two max_three min_three max_four min_four   -- for this text's walks alone
set_option linter.unusedVariables false
set_option linter.unusedSimpArgs false

/-! ### palingref11_add: function 85 -/
mutual
def palingref11_add.l0 : Nat → List Int → Int → List Int → Bool → Int → Option (List Int)
  | 0, _, _, _, _, _ => none
  | k + 1, x0, x1, x5, x6, x7 => if x7 < (x0.length : Int) then (if 0 ≤ x7 then (if (rd x0 x7) ≥ x1 then (palingref11_add.j1 k x0 x1 x5 x6 x7 (!x6)) else (palingref11_add.j1 k x0 x1 x5 x6 x7 false)) else (none)) else (if x6 = true then (some x5) else (if x5.length < 17592186044416 then (some (x5 ++ [x1])) else (none)))
def palingref11_add.j1 : Nat → List Int → Int → List Int → Bool → Int → Bool → Option (List Int)
  | 0, _, _, _, _, _, _ => none
  | k + 1, x0, x1, x5, x6, x7, x26 => if x26 = true then (if x5.length < 17592186044416 then ((some (x5 ++ [x1] : List Int)).bind fun y226 => (if 0 ≤ x7 then (if x7 < (x0.length : Int) then (if (rd x0 x7) = x1 then (palingref11_add.l0 k x0 x1 y226 true (wrap64 (x7 + 1))) else (if y226.length < 17592186044416 then (palingref11_add.l0 k x0 x1 (y226 ++ [rd x0 x7]) true (wrap64 (x7 + 1))) else (none))) else (none)) else (none))) else (none)) else (if 0 ≤ x7 then (if x7 < (x0.length : Int) then (if (rd x0 x7) = x1 then (palingref11_add.l0 k x0 x1 x5 x6 (wrap64 (x7 + 1))) else (if x5.length < 17592186044416 then (palingref11_add.l0 k x0 x1 (x5 ++ [rd x0 x7]) x6 (wrap64 (x7 + 1))) else (none))) else (none)) else (none))
end
def palingref11_add.f (k : Nat) (l0 : List Int) (a1 : Int) : Option (List Int) := if a1 < 0 then (some l0) else (palingref11_add.l0 k l0 a1 ([] : List Int) false 0)
theorem palingref11_add.mono_l : ∀ k, (∀ y0 y1 y2 y3 y4, LeO (palingref11_add.l0 k y0 y1 y2 y3 y4) (palingref11_add.l0 (k + 1) y0 y1 y2 y3 y4)) ∧ (∀ y0 y1 y2 y3 y4 y5, LeO (palingref11_add.j1 k y0 y1 y2 y3 y4 y5) (palingref11_add.j1 (k + 1) y0 y1 y2 y3 y4 y5))
  | 0 => ⟨fun _ _ _ _ _ r h => by simp [palingref11_add.l0] at h, fun _ _ _ _ _ _ r h => by simp [palingref11_add.j1] at h⟩
  | k + 1 => by
    obtain ⟨ih0, ih1⟩ := palingref11_add.mono_l k
    refine ⟨?_, ?_⟩ <;> intros <;> (first | unfold palingref11_add.l0 | unfold palingref11_add.j1) <;> repeat' (first | (with_reducible first | exact ih0 _ _ _ _ _ | exact ih1 _ _ _ _ _ _ | exact LeO.refl _ | exact LeO.none _ | refine LeO.ite ?_ ?_ | refine LeO.bind ?_ (fun _ => ?_)) | exact ih0 _ _ _ _ _ | exact ih1 _ _ _ _ _ _ | exact LeO.none _ | refine LeO.ite ?_ ?_ | refine LeO.bind ?_ (fun _ => ?_))
theorem palingref11_add.mono : ∀ a0 a1 k, LeO (palingref11_add.f k a0 a1) (palingref11_add.f (k + 1) a0 a1) := by
 intro a0 a1 k
 obtain ⟨ih0, ih1⟩ := palingref11_add.mono_l k
 unfold palingref11_add.f
 repeat' (first | (with_reducible first | exact ih0 _ _ _ _ _ | exact ih1 _ _ _ _ _ _ | exact LeO.refl _ | exact LeO.none _ | refine LeO.ite ?_ ?_ | refine LeO.bind ?_ (fun _ => ?_)) | exact ih0 _ _ _ _ _ | exact ih1 _ _ _ _ _ _ | exact LeO.none _ | refine LeO.ite ?_ ?_ | refine LeO.bind ?_ (fun _ => ?_))
set_option maxHeartbeats 8000000 in
set_option maxRecDepth 100000 in
theorem palingref11_add.calls (k : Nat) (P0_ : Nat → Prop) (u9000_ : Value) (l0 : List Int) (a1 : Int) (r : List Int) (w0 w : World) (hB : Below w0.heap.size w0 w) (ho0 : Kd.R (Kd.int .i64) 3 w w0.heap.size P0_ u9000_ l0) (h : palingref11_add.f k l0 a1 = some r) :
    Calls Tryd.prog 85 #[u9000_, .int .i64 a1] w fun e w' => ∃ v0_ : Value, e = .returned (v0_) ∧ Kd.R (Kd.int .i64) 3 w' w0.heap.size (fun k_ => (P0_ k_ ∨ w.heap.size ≤ k_)) v0_ r ∧ Below w0.heap.size w0 w' ∧ Kept w w' (fun k_ => P0_ k_) := by
 have HO0 := Aside0.mk (show Kd.R (Kd.int .i64) 3 w w0.heap.size (fun k_ => (P0_ k_ ∨ w.heap.size ≤ k_)) u9000_ l0 from Kd.R_mono ho0 (fun k_ hk => (.inl hk)))
 have HK := Aside0.mk (Kept.refl w (fun k_ => P0_ k_))
 have HW0 := Aside0.mk hB.size
 have HB := Aside0.mk hB
 clear hB
 have H : (if a1 < 0 then (some l0) else (palingref11_add.l0 k l0 a1 ([] : List Int) false 0)) = some r := h
 clear h
 by_cases c3 : a1 < 0
 ·rw [if_pos c3] at H
  have c3b0 : decide (a1 < 0) = true := decide_eq_true c3
  clear c3
  obtain rfl := Option.some.inj H
  go_enter Tryd.func85, Tryd.ntmps85
  go_wp2
  go_ret
  exact ⟨_, aq11, by (with_reducible repeat (first | apply Kd.R_alloc | apply Kd.R_drewN | apply Kd.R_drew)); exact HO0.out, aq0, aq18⟩
 rw [if_neg c3] at H
 have c3b0 : decide (a1 < 0) = false := decide_eq_false c3
 clear c3
 have H' := Aside0.mk H
 clear H
 go_enter Tryd.func85, Tryd.ntmps85
 go_wp2
 go_loopg [5, 6, 7] k (fun kq v5 v6 v7 w' => ∃ (x5_1 : List Int) (x6_1 : Bool) (x7_1 : Int), v6 = .bool x6_1 ∧ v7 = .int .i64 x7_1 ∧ Aside0 (palingref11_add.l0 kq l0 a1 x5_1 x6_1 x7_1 = some r) ∧ Aside0 (kq ≤ k) ∧ Aside0 (Kd.R (Kd.int .i64) 3 w' w0.heap.size (fun k_ => (P0_ k_ ∨ w.heap.size ≤ k_) ∧ some k_ ≠ (v5 : Value).ownBlock) u9000_ l0) ∧ Aside0 (Kd.R (Kd.int .i64) 3 w' w0.heap.size (fun k_ => (P0_ k_ ∨ w.heap.size ≤ k_) ∧ some k_ ≠ (u9000_ : Value).ownBlock) v5 x5_1) ∧ Aside0 (Kept w w' (fun k_ => P0_ k_)) ∧ Aside0 (Below w0.heap.size w0 w'))
 case atStart => exact ⟨(([] : List Int)), (false), (0), aq5, aq5, H', ⟨Nat.le_refl _⟩, ⟨by (with_reducible repeat (first | apply Kd.R_alloc | apply Kd.R_drewN | apply Kd.R_drew)); exact Kd.R_mono HO0.out (fun _ hk => ⟨hk, (by simp [Value.ownBlock])⟩)⟩, ⟨aq28⟩, ⟨aq18⟩, ⟨aq0⟩⟩
 case round =>
  clear H'
  obtain ⟨x5_1, x6_1, x7_1, rfl, rfl, HA, HK1, HO_0, HO_5, HK, HB⟩ := hrel
  cases gk with
  | zero => exact absurd HA.out (by simp [palingref11_add.l0])
  | succ k1 =>
   have H := HA.out
   clear HA
   simp only [palingref11_add.l0] at H
   by_cases c4 : x7_1 < (l0.length : Int)
   rotate_left
   ·rw [if_neg c4] at H
    have c4b0 : decide (x7_1 < (l0.length : Int)) = false := decide_eq_false c4
    clear c4
    by_cases c23 : x6_1 = true
    ·subst c23
     rw [if_pos rfl] at H
     obtain rfl := Option.some.inj H
     obtain ⟨Ao24, co24, eo24⟩ := Kd.R_slice HO_0.out
     subst eo24
     go_wp2
     go_ret
     exact ⟨_, aq11, by (with_reducible repeat (first | apply Kd.R_alloc | apply Kd.R_drewN | apply Kd.R_drew)); exact Kd.R_mono HO_5.out (fun _ hk => hk.1), aq0, aq18⟩
    replace c23 := Bool.eq_false_iff.mpr c23
    subst c23
    rw [if_neg nf_] at H
    by_cases c25 : x5_1.length < 17592186044416
    rotate_left
    ·rw [if_neg c25] at H
     exact absurd H (by simp)
    rw [if_pos c25] at H
    have LMc25 := Aside0.mk c25
    clear c25
    obtain ⟨y222, hy_⟩ : ∃ y_ : List Int, y_ = (x5_1 ++ [a1]) := ⟨_, rfl⟩
    replace H : (some y222) = some r := aq1
    have Ny222 := Aside0.mk hy_
    clear hy_
    obtain rfl := Option.some.inj H
    obtain ⟨Ao26, co26, eo26⟩ := Kd.R_slice HO_0.out
    subst eo26
    go_wp2_with (first | ((with_reducible refine gate_builtin (b := .append) (xs := #[.tmp 46, .tmp 48]) rfl ?_); at_builtin; refine Kd.R_append (Kd.int .i64) (w0 := w0) w0.heap.size rfl (.tmp 46) (.tmp 48) 57 3 (.int .i64 0) 8 rfl Tryd.underlying57 info3 rfl (by decide) (by omega) u5 x5_1 a1 [.int .i64 a1] (fun k_ => (P0_ k_ ∨ w.heap.size ≤ k_) ∧ some k_ ≠ (.slice Ao26 l0.length co26 : Value).ownBlock) (fun _ => False) rfl rfl ?aP (fun _ hk => hk.elim) ?aF ?aO ?aB ?aS ?aL ?_; (case aP => exact rfl); (case aB => exact aq0); (case aF => exact (fun k_ hk => ⟨(.inr (Nat.le_trans aq27 hk)), Kd.fresh' (Kd.R_lt aq21) k_ hk⟩)); (case aO => exact aq12); (case aS => exact (below_size aq0)); (case aL => have := LMc25.out; omega); intro v223 w27 ho hb hg hat; rw [← Ny222.out] at ho; replace HO_0 := Aside0.mk (Kd.R_after (ok := (fun k_ => (P0_ k_ ∨ w.heap.size ≤ k_))) aq21 hg hat); replace HB := Aside0.mk (hb); replace HK := Aside0.mk (Kept.of_grown (S := (fun k_ => P0_ k_)) hg aq18 (fun k_ e_ => (HO_5.out.1 k_ e_).1)); have HO224 := Aside0.mk (ho); clear HO_5; clear ho hb hg hat))
    go_ret
    exact ⟨_, aq11, by (with_reducible repeat (first | apply Kd.R_alloc | apply Kd.R_drewN | apply Kd.R_drew)); exact Kd.R_mono HO224.out (fun _ hk => hk.1), aq0, aq18⟩
   rw [if_pos c4] at H
   have c4b0 : decide (x7_1 < (l0.length : Int)) = true := decide_eq_true c4
   clear c4
   have HC5 := Aside0.mk H
   clear H
   obtain ⟨Ao6, co6, eo6⟩ := Kd.R_slice HO_0.out
   subst eo6
   go_upto_region 8 with (fail)
   go_cut [26] (fun v26 wc => ∃ (kq : Nat) (x26_4 : Bool), v26 = .bool x26_4 ∧ Aside0 (palingref11_add.j1 kq l0 a1 x5_1 x6_1 x7_1 x26_4 = some r) ∧ Aside0 (kq ≤ k1) ∧ Aside0 (Kd.R (Kd.int .i64) 3 wc w0.heap.size (fun k_ => (P0_ k_ ∨ w.heap.size ≤ k_) ∧ some k_ ≠ (u5 : Value).ownBlock) (.slice Ao6 l0.length co6) l0) ∧ Aside0 (Kd.R (Kd.int .i64) 3 wc w0.heap.size (fun k_ => (P0_ k_ ∨ w.heap.size ≤ k_) ∧ some k_ ≠ ((.slice Ao6 l0.length co6) : Value).ownBlock) u5 x5_1) ∧ Aside0 (Kept w wc (fun k_ => P0_ k_)) ∧ Aside0 (Below w0.heap.size w0 wc))
   case first =>
    have H := HC5.out
    clear HC5
    by_cases c7 : 0 ≤ x7_1
    rotate_left
    ·rw [if_neg c7] at H
     exact absurd H (by simp)
    rw [if_pos c7] at H
    have c7b0 : decide (0 ≤ x7_1) = true := decide_eq_true c7
    clear c7
    (first | rw [c7b0] | (simp only [i64_w, i32_w]; rw [c7b0]) | skip)
    by_cases c8 : (rd l0 x7_1) ≥ a1
    ·rw [if_pos c8] at H
     have c8b0 : decide (a1 ≤ (rd l0 x7_1)) = true := decide_eq_true c8
     clear c8
     have H' := Aside0.mk H
     clear H
     have p225 : 0 ≤ (x7_1 : Int) := of_decide_eq_true aq2
     have q225 : x7_1 < (l0.length : Int) := of_decide_eq_true aq2
     obtain ⟨ad225, e225, hx225_0⟩ := Kd.at_int (Kd.R_reads' HO_0.out).2.2 x7_1 p225 q225
     cases e225
     replace p225 := eq_true p225
     replace q225 := eq_true q225
     go_wp2
     go_meet
     case rel => exact ⟨_, (!x6_1), aq5, H', ⟨aq49⟩, ⟨aq21⟩, ⟨aq12⟩, ⟨aq18⟩, ⟨aq0⟩⟩
    rw [if_neg c8] at H
    have c8b0 : decide (a1 ≤ (rd l0 x7_1)) = false := decide_eq_false c8
    clear c8
    have H' := Aside0.mk H
    clear H
    have p225 : 0 ≤ (x7_1 : Int) := of_decide_eq_true aq2
    have q225 : x7_1 < (l0.length : Int) := of_decide_eq_true aq2
    obtain ⟨ad225, e225, hx225_0⟩ := Kd.at_int (Kd.R_reads' HO_0.out).2.2 x7_1 p225 q225
    cases e225
    replace p225 := eq_true p225
    replace q225 := eq_true q225
    go_wp2
    go_meet
    case rel => exact ⟨_, (false), aq5, H', ⟨aq49⟩, ⟨aq21⟩, ⟨aq12⟩, ⟨aq18⟩, ⟨aq0⟩⟩
   case rest =>
    clear HC5
    obtain ⟨kq, x26_4, rfl, HA, HJ4, HO_0, HO_5, HK, HB⟩ := hcut
    cases kq with
    | zero => exact absurd HA.out (by simp [palingref11_add.j1])
    | succ kj4 =>
     have H := HA.out
     clear HA
     simp only [palingref11_add.j1] at H
     by_cases c9 : x26_4 = true
     rotate_left
     ·replace c9 := Bool.eq_false_iff.mpr c9
      subst c9
      rw [if_neg nf_] at H
      by_cases c18 : 0 ≤ x7_1
      rotate_left
      ·rw [if_neg c18] at H
       exact absurd H (by simp)
      rw [if_pos c18] at H
      have c18b0 : decide (0 ≤ x7_1) = true := decide_eq_true c18
      clear c18
      by_cases c19 : x7_1 < (l0.length : Int)
      rotate_left
      ·rw [if_neg c19] at H
       exact absurd H (by simp)
      rw [if_pos c19] at H
      have c19b0 : decide (x7_1 < (l0.length : Int)) = true := decide_eq_true c19
      clear c19
      by_cases c20 : (rd l0 x7_1) = a1
      ·rw [if_pos c20] at H
       have c20b0 : ((rd l0 x7_1) == a1) = true := beq_iff_eq.mpr c20
       have c20b1 : ((rd l0 x7_1) != a1) = false := bne_eq_false_iff_eq.mpr c20
       clear c20
       have H' := Aside0.mk H
       clear H
       have p234 : 0 ≤ (x7_1 : Int) := of_decide_eq_true aq2
       have q234 : x7_1 < (l0.length : Int) := of_decide_eq_true aq2
       obtain ⟨ad234, e234, hx234_0⟩ := Kd.at_int (Kd.R_reads' HO_0.out).2.2 x7_1 p234 q234
       cases e234
       replace p234 := eq_true p234
       replace q234 := eq_true q234
       go_wp2
       go_roundg kj4
       case measure => have := HK1.out; have := HJ4.out; omega
       case rel => exact ⟨(x5_1), (x6_1), (wrap64 (x7_1 + 1)), aq5, aq5, H', ⟨aq56⟩, ⟨aq21⟩, ⟨aq12⟩, ⟨aq18⟩, ⟨aq0⟩⟩
      rw [if_neg c20] at H
      have c20b0 : ((rd l0 x7_1) == a1) = false := beq_eq_false_iff_ne.mpr c20
      have c20b1 : ((rd l0 x7_1) != a1) = true := bne_iff_ne.mpr c20
      by_cases c21 : x5_1.length < 17592186044416
      rotate_left
      ·rw [if_neg c21] at H
       exact absurd H (by simp)
      rw [if_pos c21] at H
      have LMc21 := Aside0.mk c21
      clear c21
      obtain ⟨y236, hy_⟩ : ∃ y_ : List Int, y_ = (x5_1 ++ [rd l0 x7_1]) := ⟨_, rfl⟩
      replace H : (palingref11_add.l0 kj4 l0 a1 y236 x6_1 (wrap64 (x7_1 + 1))) = some r := aq1
      have Ny236 := Aside0.mk hy_
      clear hy_
      have H' := Aside0.mk H
      clear H
      have p234 : 0 ≤ (x7_1 : Int) := of_decide_eq_true aq2
      have q234 : x7_1 < (l0.length : Int) := of_decide_eq_true aq2
      obtain ⟨ad234, e234, hx234_0⟩ := Kd.at_int (Kd.R_reads' HO_0.out).2.2 x7_1 p234 q234
      cases e234
      replace p234 := eq_true p234
      replace q234 := eq_true q234
      have p235 : 0 ≤ (x7_1 : Int) := of_decide_eq_true aq2
      have q235 : x7_1 < (l0.length : Int) := of_decide_eq_true aq2
      obtain ⟨ad235, e235, hx235_0⟩ := Kd.at_int (Kd.R_reads' HO_0.out).2.2 x7_1 p235 q235
      obtain rfl : ad234 = ad235 := (by injection e235)
      replace p235 := eq_true p235
      replace q235 := eq_true q235
      go_wp2_with (first | ((with_reducible refine gate_builtin (b := .append) (xs := #[.tmp 37, .tmp 42]) rfl ?_); at_builtin; refine Kd.R_append (Kd.int .i64) (w0 := w0) w0.heap.size rfl (.tmp 37) (.tmp 42) 57 3 (.int .i64 0) 8 rfl Tryd.underlying57 info3 rfl (by decide) (by omega) u5 x5_1 (rd l0 x7_1) [.int .i64 (rd l0 x7_1)] (fun k_ => (P0_ k_ ∨ w.heap.size ≤ k_) ∧ some k_ ≠ (.slice (some ad234) l0.length co6 : Value).ownBlock) (fun _ => False) rfl rfl ?aP (fun _ hk => hk.elim) ?aF ?aO ?aB ?aS ?aL ?_; (case aP => exact rfl); (case aB => exact aq0); (case aF => exact (fun k_ hk => ⟨(.inr (Nat.le_trans aq27 hk)), Kd.fresh' (Kd.R_lt aq21) k_ hk⟩)); (case aO => exact aq12); (case aS => exact (below_size aq0)); (case aL => have := LMc21.out; omega); intro v237 w22 ho hb hg hat; rw [← Ny236.out] at ho; replace HO_0 := Aside0.mk (Kd.R_after (ok := (fun k_ => (P0_ k_ ∨ w.heap.size ≤ k_))) aq21 hg hat); replace HB := Aside0.mk (hb); replace HK := Aside0.mk (Kept.of_grown (S := (fun k_ => P0_ k_)) hg aq18 (fun k_ e_ => (HO_5.out.1 k_ e_).1)); have HO238 := Aside0.mk (ho); clear HO_5; clear ho hb hg hat))
      go_roundg kj4
      case measure => have := HK1.out; have := HJ4.out; omega
      case rel => exact ⟨(y236), (x6_1), (wrap64 (x7_1 + 1)), aq5, aq5, H', ⟨aq56⟩, ⟨aq21⟩, ⟨by (with_reducible repeat (first | apply Kd.R_alloc | apply Kd.R_drewN | apply Kd.R_drew)); exact HO238.out⟩, ⟨aq18⟩, ⟨aq0⟩⟩
     subst c9
     rw [if_pos rfl] at H
     by_cases c10 : x5_1.length < 17592186044416
     rotate_left
     ·rw [if_neg c10] at H
      exact absurd H (by simp)
     rw [if_pos c10] at H
     have LMc10 := Aside0.mk c10
     clear c10
     obtain ⟨y226, hy_⟩ : ∃ y_ : List Int, y_ = (x5_1 ++ [a1]) := ⟨_, rfl⟩
     replace H : (if 0 ≤ x7_1 then (if x7_1 < (l0.length : Int) then (if (rd l0 x7_1) = a1 then (palingref11_add.l0 kj4 l0 a1 y226 true (wrap64 (x7_1 + 1))) else (if y226.length < 17592186044416 then (palingref11_add.l0 kj4 l0 a1 (y226 ++ [rd l0 x7_1]) true (wrap64 (x7_1 + 1))) else (none))) else (none)) else (none)) = some r := aq1
     have Ny226 := Aside0.mk hy_
     clear hy_
     by_cases c11 : 0 ≤ x7_1
     rotate_left
     ·rw [if_neg c11] at H
      exact absurd H (by simp)
     rw [if_pos c11] at H
     have c11b0 : decide (0 ≤ x7_1) = true := decide_eq_true c11
     clear c11
     by_cases c12 : x7_1 < (l0.length : Int)
     rotate_left
     ·rw [if_neg c12] at H
      exact absurd H (by simp)
     rw [if_pos c12] at H
     have c12b0 : decide (x7_1 < (l0.length : Int)) = true := decide_eq_true c12
     clear c12
     by_cases c13 : (rd l0 x7_1) = a1
     ·rw [if_pos c13] at H
      have c13b0 : ((rd l0 x7_1) == a1) = true := beq_iff_eq.mpr c13
      have c13b1 : ((rd l0 x7_1) != a1) = false := bne_eq_false_iff_eq.mpr c13
      clear c13
      have H' := Aside0.mk H
      clear H
      go_wp2_with (first | ((with_reducible refine gate_builtin (b := .append) (xs := #[.tmp 27, .tmp 29]) rfl ?_); at_builtin; refine Kd.R_append (Kd.int .i64) (w0 := w0) w0.heap.size rfl (.tmp 27) (.tmp 29) 57 3 (.int .i64 0) 8 rfl Tryd.underlying57 info3 rfl (by decide) (by omega) u5 x5_1 a1 [.int .i64 a1] (fun k_ => (P0_ k_ ∨ w.heap.size ≤ k_) ∧ some k_ ≠ (.slice Ao6 l0.length co6 : Value).ownBlock) (fun _ => False) rfl rfl ?aP (fun _ hk => hk.elim) ?aF ?aO ?aB ?aS ?aL ?_; (case aP => exact rfl); (case aB => exact aq0); (case aF => exact (fun k_ hk => ⟨(.inr (Nat.le_trans aq27 hk)), Kd.fresh' (Kd.R_lt aq21) k_ hk⟩)); (case aO => exact aq12); (case aS => exact (below_size aq0)); (case aL => have := LMc10.out; omega); intro v227 w14 ho hb hg hat; rw [← Ny226.out] at ho; replace HO_0 := Aside0.mk (Kd.R_after (ok := (fun k_ => (P0_ k_ ∨ w.heap.size ≤ k_))) aq21 hg hat); replace HB := Aside0.mk (hb); replace HK := Aside0.mk (Kept.of_grown (S := (fun k_ => P0_ k_)) hg aq18 (fun k_ e_ => (HO_5.out.1 k_ e_).1)); have HO228 := Aside0.mk (ho); clear HO_5; clear ho hb hg hat; have p229 : 0 ≤ (x7_1 : Int) := of_decide_eq_true aq2; have q229 : x7_1 < (l0.length : Int) := of_decide_eq_true aq2; obtain ⟨ad229, e229, hx229_0⟩ := Kd.at_int (Kd.R_reads' HO_0.out).2.2 x7_1 p229 q229; cases e229; replace p229 := eq_true p229; replace q229 := eq_true q229))
      go_roundg kj4
      case measure => have := HK1.out; have := HJ4.out; omega
      case rel => exact ⟨(y226), (true), (wrap64 (x7_1 + 1)), aq5, aq5, H', ⟨aq56⟩, ⟨aq21⟩, ⟨by (with_reducible repeat (first | apply Kd.R_alloc | apply Kd.R_drewN | apply Kd.R_drew)); exact HO228.out⟩, ⟨aq18⟩, ⟨aq0⟩⟩
     rw [if_neg c13] at H
     have c13b0 : ((rd l0 x7_1) == a1) = false := beq_eq_false_iff_ne.mpr c13
     have c13b1 : ((rd l0 x7_1) != a1) = true := bne_iff_ne.mpr c13
     by_cases c15 : y226.length < 17592186044416
     rotate_left
     ·rw [if_neg c15] at H
      exact absurd H (by simp)
     rw [if_pos c15] at H
     have LMc15 := Aside0.mk c15
     clear c15
     obtain ⟨y231, hy_⟩ : ∃ y_ : List Int, y_ = (y226 ++ [rd l0 x7_1]) := ⟨_, rfl⟩
     replace H : (palingref11_add.l0 kj4 l0 a1 y231 true (wrap64 (x7_1 + 1))) = some r := aq1
     have Ny231 := Aside0.mk hy_
     clear hy_
     have H' := Aside0.mk H
     clear H
     go_wp2_with (first | ((with_reducible refine gate_builtin (b := .append) (xs := #[.tmp 27, .tmp 29]) rfl ?_); at_builtin; refine Kd.R_append (Kd.int .i64) (w0 := w0) w0.heap.size rfl (.tmp 27) (.tmp 29) 57 3 (.int .i64 0) 8 rfl Tryd.underlying57 info3 rfl (by decide) (by omega) u5 x5_1 a1 [.int .i64 a1] (fun k_ => (P0_ k_ ∨ w.heap.size ≤ k_) ∧ some k_ ≠ (.slice Ao6 l0.length co6 : Value).ownBlock) (fun _ => False) rfl rfl ?aP (fun _ hk => hk.elim) ?aF ?aO ?aB ?aS ?aL ?_; (case aP => exact rfl); (case aB => exact aq0); (case aF => exact (fun k_ hk => ⟨(.inr (Nat.le_trans aq27 hk)), Kd.fresh' (Kd.R_lt aq21) k_ hk⟩)); (case aO => exact aq12); (case aS => exact (below_size aq0)); (case aL => have := LMc10.out; omega); intro v227 w16 ho hb hg hat; rw [← Ny226.out] at ho; replace HO_0 := Aside0.mk (Kd.R_after (ok := (fun k_ => (P0_ k_ ∨ w.heap.size ≤ k_))) aq21 hg hat); replace HB := Aside0.mk (hb); replace HK := Aside0.mk (Kept.of_grown (S := (fun k_ => P0_ k_)) hg aq18 (fun k_ e_ => (HO_5.out.1 k_ e_).1)); have HO228 := Aside0.mk (ho); clear HO_5; clear ho hb hg hat; have p229 : 0 ≤ (x7_1 : Int) := of_decide_eq_true aq2; have q229 : x7_1 < (l0.length : Int) := of_decide_eq_true aq2; obtain ⟨ad229, e229, hx229_0⟩ := Kd.at_int (Kd.R_reads' HO_0.out).2.2 x7_1 p229 q229; cases e229; replace p229 := eq_true p229; replace q229 := eq_true q229; have p230 : 0 ≤ (x7_1 : Int) := of_decide_eq_true aq2; have q230 : x7_1 < (l0.length : Int) := of_decide_eq_true aq2; obtain ⟨ad230, e230, hx230_0⟩ := Kd.at_int (Kd.R_reads' HO_0.out).2.2 x7_1 p230 q230; obtain rfl : ad229 = ad230 := (by injection e230); replace p230 := eq_true p230; replace q230 := eq_true q230) | ((with_reducible refine gate_builtin (b := .append) (xs := #[.tmp 37, .tmp 42]) rfl ?_); at_builtin; refine Kd.R_append (Kd.int .i64) (w0 := w0) w0.heap.size rfl (.tmp 37) (.tmp 42) 57 3 (.int .i64 0) 8 rfl Tryd.underlying57 info3 rfl (by decide) (by omega) v227 y226 (rd l0 x7_1) [.int .i64 (rd l0 x7_1)] (fun k_ => (P0_ k_ ∨ w.heap.size ≤ k_) ∧ some k_ ≠ (.slice (some ad229) l0.length co6 : Value).ownBlock) (fun _ => False) rfl rfl ?aP (fun _ hk => hk.elim) ?aF ?aO ?aB ?aS ?aL ?_; (case aP => exact rfl); (case aB => exact aq0); (case aF => exact (fun k_ hk => ⟨(.inr (Nat.le_trans aq27 hk)), Kd.fresh' (Kd.R_lt aq21) k_ hk⟩)); (case aO => exact (by (with_reducible repeat (first | apply Kd.R_alloc | apply Kd.R_drewN | apply Kd.R_drew)); exact HO228.out)); (case aS => exact (below_size aq0)); (case aL => have := LMc15.out; omega); intro v232 w17 ho hb hg hat; rw [← Ny231.out] at ho; replace HO_0 := Aside0.mk (Kd.R_after (ok := (fun k_ => (P0_ k_ ∨ w.heap.size ≤ k_))) aq21 hg hat); replace HB := Aside0.mk (hb); replace HK := Aside0.mk (Kept.of_grown (S := (fun k_ => P0_ k_)) hg aq18 (fun k_ e_ => (HO228.out.1 k_ e_).1)); have HO233 := Aside0.mk (ho); clear HO228; clear ho hb hg hat))
     go_roundg kj4
     case measure => have := HK1.out; have := HJ4.out; omega
     case rel => exact ⟨(y231), (true), (wrap64 (x7_1 + 1)), aq5, aq5, H', ⟨aq56⟩, ⟨aq21⟩, ⟨by (with_reducible repeat (first | apply Kd.R_alloc | apply Kd.R_drewN | apply Kd.R_drew)); exact HO233.out⟩, ⟨aq18⟩, ⟨aq0⟩⟩
/-! ### palingref11_Uses: function 75 -/
mutual
def palingref11_Uses.j0 : Nat → ByteArray → List Int → Int → Int → Int → Int → Int → Int → Int → Option (List Int)
  | 0, _, _, _, _, _, _, _, _, _ => none
  | k + 1, x3, x4, x240000, x240001, x240002, x240003, x240004, x240005, x240006 => (palingref11_Has.f k x3 65).bind fun t244 => (if t244 = true then ((palingref11_add.f k x4 x240003).bind fun t245 => (palingref11_Uses.j1 k x3 t245 x240000 x240001 x240002 x240003 x240004 x240005 x240006)) else (palingref11_Uses.j1 k x3 x4 x240000 x240001 x240002 x240003 x240004 x240005 x240006))
def palingref11_Uses.j1 : Nat → ByteArray → List Int → Int → Int → Int → Int → Int → Int → Int → Option (List Int)
  | 0, _, _, _, _, _, _, _, _, _ => none
  | k + 1, x3, x4, x240000, x240001, x240002, x240003, x240004, x240005, x240006 => (palingref11_Has.f k x3 66).bind fun t248 => (if t248 = true then ((palingref11_add.f k x4 x240004).bind fun t249 => (some t249)) else (some x4))
end
def palingref11_Uses.f (k : Nat) (a0_0 : Int) (a0_1 : Int) (a0_2 : Int) (a0_3 : Int) (a0_4 : Int) (a0_5 : Int) (a0_6 : Int) : Option (List Int) := (palingref11_fields.f a0_0).bind fun t240 => (if a0_0 = 3 then ((palingref11_add.f k ([] : List Int) a0_2).bind fun t241 => (palingref11_Uses.j0 k t240 t241 a0_0 a0_1 a0_2 a0_3 a0_4 a0_5 a0_6)) else (palingref11_Uses.j0 k t240 ([] : List Int) a0_0 a0_1 a0_2 a0_3 a0_4 a0_5 a0_6))
theorem palingref11_Uses.mono_l : ∀ k, (∀ y0 y1 y2 y3 y4 y5 y6 y7 y8, LeO (palingref11_Uses.j0 k y0 y1 y2 y3 y4 y5 y6 y7 y8) (palingref11_Uses.j0 (k + 1) y0 y1 y2 y3 y4 y5 y6 y7 y8)) ∧ (∀ y0 y1 y2 y3 y4 y5 y6 y7 y8, LeO (palingref11_Uses.j1 k y0 y1 y2 y3 y4 y5 y6 y7 y8) (palingref11_Uses.j1 (k + 1) y0 y1 y2 y3 y4 y5 y6 y7 y8))
  | 0 => ⟨fun _ _ _ _ _ _ _ _ _ r h => by simp [palingref11_Uses.j0] at h, fun _ _ _ _ _ _ _ _ _ r h => by simp [palingref11_Uses.j1] at h⟩
  | k + 1 => by
    obtain ⟨ih0, ih1⟩ := palingref11_Uses.mono_l k
    refine ⟨?_, ?_⟩ <;> intros <;> (first | unfold palingref11_Uses.j0 | unfold palingref11_Uses.j1) <;> repeat' (first | (with_reducible first | exact ih0 _ _ _ _ _ _ _ _ _ | exact ih1 _ _ _ _ _ _ _ _ _ | exact palingref11_Has.mono _ _ _ | exact palingref11_add.mono _ _ _ | exact LeO.refl _ | exact LeO.none _ | refine LeO.ite ?_ ?_ | refine LeO.bind ?_ (fun _ => ?_)) | exact ih0 _ _ _ _ _ _ _ _ _ | exact ih1 _ _ _ _ _ _ _ _ _ | exact palingref11_Has.mono _ _ _ | exact palingref11_add.mono _ _ _ | exact LeO.none _ | refine LeO.ite ?_ ?_ | refine LeO.bind ?_ (fun _ => ?_))
theorem palingref11_Uses.mono : ∀ a0 a1 a2 a3 a4 a5 a6 k, LeO (palingref11_Uses.f k a0 a1 a2 a3 a4 a5 a6) (palingref11_Uses.f (k + 1) a0 a1 a2 a3 a4 a5 a6) := by
 intro a0 a1 a2 a3 a4 a5 a6 k
 obtain ⟨ih0, ih1⟩ := palingref11_Uses.mono_l k
 unfold palingref11_Uses.f
 repeat' (first | (with_reducible first | exact ih0 _ _ _ _ _ _ _ _ _ | exact ih1 _ _ _ _ _ _ _ _ _ | exact palingref11_Has.mono _ _ _ | exact palingref11_add.mono _ _ _ | exact LeO.refl _ | exact LeO.none _ | refine LeO.ite ?_ ?_ | refine LeO.bind ?_ (fun _ => ?_)) | exact ih0 _ _ _ _ _ _ _ _ _ | exact ih1 _ _ _ _ _ _ _ _ _ | exact palingref11_Has.mono _ _ _ | exact palingref11_add.mono _ _ _ | exact LeO.none _ | refine LeO.ite ?_ ?_ | refine LeO.bind ?_ (fun _ => ?_))
set_option maxHeartbeats 8000000 in
set_option maxRecDepth 100000 in
theorem palingref11_Uses.calls (k : Nat) (a0_0 : Int) (a0_1 : Int) (a0_2 : Int) (a0_3 : Int) (a0_4 : Int) (a0_5 : Int) (a0_6 : Int) (r : List Int) (w : World) (h : palingref11_Uses.f k a0_0 a0_1 a0_2 a0_3 a0_4 a0_5 a0_6 = some r) :
    Calls Tryd.prog 75 #[.agg #[.int .i64 a0_0, .int .i64 a0_1, .int .i64 a0_2, .int .i64 a0_3, .int .i64 a0_4, .int .i64 a0_5, .int .i64 a0_6]] w fun e w' => ∃ v0_ : Value, e = .returned (v0_) ∧ Kd.R (Kd.int .i64) 3 w' w.heap.size (fun _ => True) v0_ r ∧ Below w.heap.size w w' := by
 have hu28 := Tryd.underlying28
 have HB := Aside0.mk (Below.refl w.heap.size w)
 have H : ((palingref11_fields.f a0_0).bind fun t240 => (if a0_0 = 3 then ((palingref11_add.f k ([] : List Int) a0_2).bind fun t241 => (palingref11_Uses.j0 k t240 t241 a0_0 a0_1 a0_2 a0_3 a0_4 a0_5 a0_6)) else (palingref11_Uses.j0 k t240 ([] : List Int) a0_0 a0_1 a0_2 a0_3 a0_4 a0_5 a0_6))) = some r := h
 clear h
 obtain ⟨t240, A2, H⟩ := bS_ H
 have HC3 := Aside0.mk H
 clear H
 go_enter Tryd.func75, Tryd.ntmps75
 go_upto_if 10 with (first | ((with_reducible refine gate_dst (N := 1) rfl ?_); refine box_event ?hg (N := 1) ?hd (cs := #[.int .i64 a0_0, .int .i64 a0_1, .int .i64 a0_2, .int .i64 a0_3, .int .i64 a0_4, .int .i64 a0_5, .int .i64 a0_6]) (t := 28) ?hr ?_; (case hd => rfl); (case hg => rfl); (case hr => first | (go_simp; done) | (go_simp; rfl)); intro gb0 hg w4 hbox hb; have BK0 := Aside0.mk (hbox); have GW0 := Aside0.mk ((by rw [hg]; exact (below_size aq0) : w.heap.size ≤ gb0)); have GE0 := Aside0.mk ((by rw [hg]; exact (below_size aq0) : w.heap.size ≤ gb0)); replace HB := Aside0.mk (below_step aq0 hb); clear hb hbox hg; obtain ⟨hcz5_0, hcz5_1, hcz5_2, hcz5_3, hcz5_4, hcz5_5, hcz5_6, hfz5_0, hfz5_1, hfz5_2, hfz5_3, hfz5_4, hfz5_5, hfz5_6⟩ := czf7 BK0.out) | ((with_reducible refine gate_callee (f := 43) rfl ?_); refine goesL_ (some 7) rfl rfl Tryd.func43 (by kernel_rfl) rfl #[.int .i64 a0_0] rfl aq4 ?_; (with_reducible refine (palingref11_fields.calls a0_0 t240 _ A2.out).mono ?_); rintro e w6 ⟨rfl, hb⟩; refine ⟨_, rfl, ?_⟩; replace BK0 := Aside0.mk (blk_below (g := gb0) (o := .cells #[.int .i64 a0_0, .int .i64 a0_1, .int .i64 a0_2, .int .i64 a0_3, .int .i64 a0_4, .int .i64 a0_5, .int .i64 a0_6] 28 (0, 0)) aq8 hb); replace HB := Aside0.mk (below_step aq3 hb); (try clear hb); (try clear hb2); (try clear hk); (try clear hi); obtain ⟨hcz7_0, hcz7_1, hcz7_2, hcz7_3, hcz7_4, hcz7_5, hcz7_6, hfz7_0, hfz7_1, hfz7_2, hfz7_3, hfz7_4, hfz7_5, hfz7_6⟩ := czf7 BK0.out))
 (try simp only [Act.put, List.setIfInBounds_toArray, List.set_cons_zero, List.set_cons_succ])
 go_cut [4] (fun v4 wc => ∃ (kq : Nat) (x4_2 : List Int), Aside0 (palingref11_Uses.j0 kq t240 x4_2 a0_0 a0_1 a0_2 a0_3 a0_4 a0_5 a0_6 = some r) ∧ Aside0 (kq ≤ k) ∧ Aside0 (Kd.R (Kd.int .i64) 3 wc w.heap.size (fun _ => True) v4 x4_2) ∧ Aside0 (wc.heap[gb0]? = some (.cells #[.int .i64 a0_0, .int .i64 a0_1, .int .i64 a0_2, .int .i64 a0_3, .int .i64 a0_4, .int .i64 a0_5, .int .i64 a0_6] 28 (0, 0))) ∧ Aside0 (Below w.heap.size w wc))
 case first =>
  have H := HC3.out
  clear HC3
  by_cases c8 : a0_0 = 3
  rotate_left
  ·rw [if_neg c8] at H
   have c8b0 : (a0_0 == 3) = false := beq_eq_false_iff_ne.mpr c8
   have c8b1 : (a0_0 != 3) = true := bne_iff_ne.mpr c8
   (first | rw [c8b0] | (simp only [i64_w, i32_w]; rw [c8b0]) | skip)
   have H' := Aside0.mk H
   clear H
   go_wp2
   go_meet
   case rel => exact ⟨_, (([] : List Int)), H', ⟨aq41⟩, ⟨aq28⟩, ⟨aq8⟩, ⟨aq3⟩⟩
  rw [if_pos c8] at H
  have c8b0 : (a0_0 == 3) = true := beq_iff_eq.mpr c8
  have c8b1 : (a0_0 != 3) = false := bne_eq_false_iff_eq.mpr c8
  clear c8
  (first | rw [c8b0] | (simp only [i64_w, i32_w]; rw [c8b0]) | skip)
  obtain ⟨t241, A9, H⟩ := bS_ H
  have H' := Aside0.mk H
  clear H
  obtain ⟨hcz10_0, hcz10_1, hcz10_2, hcz10_3, hcz10_4, hcz10_5, hcz10_6, hfz10_0, hfz10_1, hfz10_2, hfz10_3, hfz10_4, hfz10_5, hfz10_6⟩ := czf7 BK0.out
  go_wp2_with (first | ((with_reducible refine gate_callee (f := 85) rfl ?_); refine goesL_ (some 14) rfl rfl Tryd.func85 (by kernel_rfl) rfl #[.slice none 0 0, .int .i64 a0_2] rfl aq4 ?_; (refine (palingref11_add.calls k (fun k_ => some k_ = (.slice none 0 0 : Value).ownBlock) (.slice none 0 0) ([] : List Int) a0_2 t241 w _ ?side1 ?side2 A9.out).mono ?_); (case side1 => repeat (first | (with_reducible first | exact HB.out | apply below_alloc | apply pw_below_drewN | apply below_drew1 | refine below_set ?_ GE0.out) | exact HB.out)); (case side2 => exact Kd.R_nil _ _ _ _ _); rintro e w11 ⟨v242, rfl, ho0, hb, hkp⟩; refine ⟨_, rfl, ?_⟩; replace BK0 := Aside0.mk (blk_kept aq8 hkp (fun hs_ => (fun e_ => by simp [Value.ownBlock] at e_) hs_)); have HO243 := Aside0.mk (Kd.R_mono (ok' := fun k_ => True) ho0 (fun k_ hk_ => trivial)); replace HB := Aside0.mk (hb); (try clear hb); (try clear hkp); (try clear ho0)))
  go_meet
  case rel => exact ⟨_, (t241), H', ⟨aq41⟩, ⟨by (with_reducible repeat (first | apply Kd.R_alloc | apply Kd.R_drewN | apply Kd.R_drew)); exact HO243.out⟩, ⟨aq8⟩, ⟨aq3⟩⟩
 case rest =>
  clear HC3
  obtain ⟨kq, x4_2, HA, HJ2, HO_4, BK0, HB⟩ := hcut
  cases kq with
  | zero => exact absurd HA.out (by simp [palingref11_Uses.j0])
  | succ kj2 =>
   have H := HA.out
   clear HA
   simp only [palingref11_Uses.j0] at H
   obtain ⟨t244, A12, H⟩ := bS_ H
   have HC13 := Aside0.mk H
   clear H
   go_upto_if 16 with (first | ((with_reducible refine gate_callee (f := 45) rfl ?_); refine goesL_ (some 16) rfl rfl Tryd.func45 (by kernel_rfl) rfl #[.string t240, .int .u8 65] rfl aq4 ?_; (with_reducible refine (palingref11_Has.calls kj2 t240 65 t244 _ A12.out).mono ?_); rintro e w' ⟨rfl, ⟨nd, rfl⟩⟩; refine ⟨_, rfl, ?_⟩))
   (try simp only [Act.put, List.setIfInBounds_toArray, List.set_cons_zero, List.set_cons_succ])
   go_cut [4] (fun v4 wc => ∃ (kq : Nat) (x4_12 : List Int), Aside0 (palingref11_Uses.j1 kq t240 x4_12 a0_0 a0_1 a0_2 a0_3 a0_4 a0_5 a0_6 = some r) ∧ Aside0 (kq ≤ kj2) ∧ Aside0 (Kd.R (Kd.int .i64) 3 wc w.heap.size (fun _ => True) v4 x4_12) ∧ Aside0 (wc.heap[gb0]? = some (.cells #[.int .i64 a0_0, .int .i64 a0_1, .int .i64 a0_2, .int .i64 a0_3, .int .i64 a0_4, .int .i64 a0_5, .int .i64 a0_6] 28 (0, 0))) ∧ Aside0 (Below w.heap.size w wc))
   case first =>
    have H := HC13.out
    clear HC13
    by_cases c14 : t244 = true
    rotate_left
    ·replace c14 := Bool.eq_false_iff.mpr c14
     subst c14
     rw [if_neg nf_] at H
     have H' := Aside0.mk H
     clear H
     go_wp2
     go_meet
     case rel => exact ⟨_, (x4_2), H', ⟨aq48⟩, ⟨aq31⟩, ⟨aq8⟩, ⟨aq3⟩⟩
    subst c14
    rw [if_pos rfl] at H
    obtain ⟨t245, A15, H⟩ := bS_ H
    have H' := Aside0.mk H
    clear H
    obtain ⟨hcz16_0, hcz16_1, hcz16_2, hcz16_3, hcz16_4, hcz16_5, hcz16_6, hfz16_0, hfz16_1, hfz16_2, hfz16_3, hfz16_4, hfz16_5, hfz16_6⟩ := czf7 BK0.out
    obtain ⟨Ao17, co17, eo17⟩ := Kd.R_slice HO_4.out
    subst eo17
    go_wp2_with (first | ((with_reducible refine gate_callee (f := 85) rfl ?_); refine goesL_ (some 20) rfl rfl Tryd.func85 (by kernel_rfl) rfl #[.slice Ao17 x4_2.length co17, .int .i64 a0_3] rfl aq4 ?_; (with_reducible refine (palingref11_add.calls kj2 (fun k_ => some k_ = (.slice Ao17 x4_2.length co17 : Value).ownBlock) (.slice Ao17 x4_2.length co17) x4_2 a0_3 t245 w _ ?side1 ?side2 A15.out).mono ?_); (case side1 => repeat (first | (with_reducible first | exact HB.out | apply below_alloc | apply pw_below_drewN | apply below_drew1 | refine below_set ?_ GE0.out) | exact HB.out)); (case side2 => exact Kd.R_tight rfl HO_4.out); rintro e w18 ⟨v246, rfl, ho0, hb, hkp⟩; refine ⟨_, rfl, ?_⟩; replace BK0 := Aside0.mk (blk_kept aq8 hkp (fun hs_ => (fun e_ => (Kd.R_ne HO_4.out BK0.out (by decide)) e_) hs_)); have HO247 := Aside0.mk (Kd.R_mono (ok' := fun k_ => True) ho0 (fun k_ hk_ => trivial)); replace HB := Aside0.mk (hb); clear HO_4; (try clear hb); (try clear hkp); (try clear ho0)))
    go_meet
    case rel => exact ⟨_, (t245), H', ⟨aq48⟩, ⟨by (with_reducible repeat (first | apply Kd.R_alloc | apply Kd.R_drewN | apply Kd.R_drew)); exact HO247.out⟩, ⟨aq8⟩, ⟨aq3⟩⟩
   case rest =>
    clear HC13
    obtain ⟨kq, x4_12, HA, HJ12, HO_4, BK0, HB⟩ := hcut
    cases kq with
    | zero => exact absurd HA.out (by simp [palingref11_Uses.j1])
    | succ kj12 =>
     have H := HA.out
     clear HA
     simp only [palingref11_Uses.j1] at H
     obtain ⟨t248, A19, H⟩ := bS_ H
     by_cases c20 : t248 = true
     rotate_left
     ·replace c20 := Bool.eq_false_iff.mpr c20
      subst c20
      rw [if_neg nf_] at H
      obtain rfl := Option.some.inj H
      go_wp2_with (first | ((with_reducible refine gate_callee (f := 45) rfl ?_); refine goesL_ (some 22) rfl rfl Tryd.func45 (by kernel_rfl) rfl #[.string t240, .int .u8 66] rfl aq4 ?_; (with_reducible refine (palingref11_Has.calls kj12 t240 66 false _ A19.out).mono ?_); rintro e w' ⟨rfl, ⟨nd, rfl⟩⟩; refine ⟨_, rfl, ?_⟩))
      go_ret
      exact ⟨_, aq11, aq31, aq3⟩
     subst c20
     rw [if_pos rfl] at H
     obtain ⟨t249, A21, H⟩ := bS_ H
     obtain rfl := Option.some.inj H
     go_wp2_with (first | ((with_reducible refine gate_callee (f := 45) rfl ?_); refine goesL_ (some 22) rfl rfl Tryd.func45 (by kernel_rfl) rfl #[.string t240, .int .u8 66] rfl aq4 ?_; (with_reducible refine (palingref11_Has.calls kj12 t240 66 true _ A19.out).mono ?_); rintro e w' ⟨rfl, ⟨nd, rfl⟩⟩; refine ⟨_, rfl, ?_⟩; obtain ⟨hcz22_0, hcz22_1, hcz22_2, hcz22_3, hcz22_4, hcz22_5, hcz22_6, hfz22_0, hfz22_1, hfz22_2, hfz22_3, hfz22_4, hfz22_5, hfz22_6⟩ := czf7 BK0.out; obtain ⟨Ao23, co23, eo23⟩ := Kd.R_slice HO_4.out; subst eo23) | ((with_reducible refine gate_callee (f := 85) rfl ?_); refine goesL_ (some 26) rfl rfl Tryd.func85 (by kernel_rfl) rfl #[.slice Ao23 x4_12.length co23, .int .i64 a0_4] rfl aq4 ?_; (with_reducible refine (palingref11_add.calls kj12 (fun k_ => some k_ = (.slice Ao23 x4_12.length co23 : Value).ownBlock) (.slice Ao23 x4_12.length co23) x4_12 a0_4 t249 w _ ?side1 ?side2 A21.out).mono ?_); (case side1 => repeat (first | (with_reducible first | exact HB.out | apply below_alloc | apply pw_below_drewN | apply below_drew1 | refine below_set ?_ GE0.out) | exact HB.out)); (case side2 => exact Kd.R_tight rfl HO_4.out); rintro e w24 ⟨v250, rfl, ho0, hb, hkp⟩; refine ⟨_, rfl, ?_⟩; replace BK0 := Aside0.mk (blk_kept aq8 hkp (fun hs_ => (fun e_ => (Kd.R_ne HO_4.out BK0.out (by decide)) e_) hs_)); have HO251 := Aside0.mk (Kd.R_mono (ok' := fun k_ => True) ho0 (fun k_ hk_ => trivial)); replace HB := Aside0.mk (hb); clear HO_4; (try clear hb); (try clear hkp); (try clear ho0)))
     go_ret
     exact ⟨_, aq11, by (with_reducible repeat (first | apply Kd.R_alloc | apply Kd.R_drewN | apply Kd.R_drew)); exact HO251.out, aq3⟩
end Go.Proofs.YtdopacgaklaaeaaDoor.PDeadTells
