-- Written by print2.py over the kit's printer. Not trusted: Lean checks it.
import Derived.Test.YtianfjhhhhmjlaaDoorPLiveFlowshqq
import Derived.Test.YtianfjhhhhmjlaaDoorPLiveFlowsx0
import Derived.Test.YtianfjhhhhmjlaaDoorPLiveFlowsx4
namespace Go.Proofs.YtianfjhhhhmjlaaDoor.PLiveFlows
open Go.RowKit Go.Proofs.YtianfjhhhhmjlaaDoorW.PrintWords Go.Proofs.YtianfjhhhhmjlaaDoorW.PrintLast Go.Proofs.YtianfjhhhhmjlaaDoorW.PrintMore
attribute [local go_sem] max2_int min2_int max_two min_two max_three min_three max_four min_four   -- for this text's walks alone
set_option linter.unusedVariables false
set_option linter.unusedSimpArgs false

/-! ### palingref14_Next: function 21 -/
def palingref14_Next.l0 : Nat → List (S39) → List Int → List Int → Int → Option (List Int)
  | 0, _, _, _, _ => none
  | k + 1, x0, x5, x6, x7 => if x7 < (x5.length : Int) then (if 0 ≤ x7 then (if (rd x5 x7) ≥ 0 then (if (rd x5 x7) < (x0.length : Int) then (if x6.length < 17592186044416 then (palingref14_Next.l0 k x0 x5 (x6 ++ [rd x5 x7]) (wrap64 (x7 + 1))) else (none)) else (palingref14_Next.l0 k x0 x5 x6 (wrap64 (x7 + 1)))) else (palingref14_Next.l0 k x0 x5 x6 (wrap64 (x7 + 1)))) else (none)) else (some x6)
def palingref14_Next.f (k : Nat) (l0 : List (S39)) (a1 : Int) : Option (List Int) := if 0 ≤ a1 then (if a1 < (l0.length : Int) then ((palingref11_Next.f k ((rd_T39 l0 a1).f0) ((rd_T39 l0 a1).f1) ((rd_T39 l0 a1).f2) ((rd_T39 l0 a1).f3) ((rd_T39 l0 a1).f4) ((rd_T39 l0 a1).f5) ((rd_T39 l0 a1).f6) a1).bind fun t187 => (palingref14_Next.l0 k l0 t187 ([] : List Int) 0)) else (none)) else (none)
theorem palingref14_Next.mono_l : ∀ k, (∀ y0 y1 y2 y3, LeO (palingref14_Next.l0 k y0 y1 y2 y3) (palingref14_Next.l0 (k + 1) y0 y1 y2 y3))
  | 0 => fun _ _ _ _ r h => by simp [palingref14_Next.l0] at h
  | k + 1 => by
    have ih0 := palingref14_Next.mono_l k
    intros <;> unfold palingref14_Next.l0 <;> repeat' (first | (with_reducible first | exact ih0 _ _ _ _ | exact palingref11_Next.mono _ _ _ _ _ _ _ _ _ | exact LeO.refl _ | exact LeO.none _ | refine LeO.ite ?_ ?_ | refine LeO.bind ?_ (fun _ => ?_)) | exact ih0 _ _ _ _ | exact palingref11_Next.mono _ _ _ _ _ _ _ _ _ | exact LeO.none _ | refine LeO.ite ?_ ?_ | refine LeO.bind ?_ (fun _ => ?_))
theorem palingref14_Next.mono : ∀ a0 a1 k, LeO (palingref14_Next.f k a0 a1) (palingref14_Next.f (k + 1) a0 a1) := by
 intro a0 a1 k
 have ih0 := palingref14_Next.mono_l k
 unfold palingref14_Next.f
 repeat' (first | (with_reducible first | exact ih0 _ _ _ _ | exact palingref11_Next.mono _ _ _ _ _ _ _ _ _ | exact LeO.refl _ | exact LeO.none _ | refine LeO.ite ?_ ?_ | refine LeO.bind ?_ (fun _ => ?_)) | exact ih0 _ _ _ _ | exact palingref11_Next.mono _ _ _ _ _ _ _ _ _ | exact LeO.none _ | refine LeO.ite ?_ ?_ | refine LeO.bind ?_ (fun _ => ?_))
set_option maxHeartbeats 8000000 in
set_option maxRecDepth 100000 in
theorem palingref14_Next.calls (k : Nat) (A0 : Option Addr) (c0 : Nat) (l0 : List (S39)) (a1 : Int) (r : List Int) (w : World) (hr0 : Kd.C k39 w A0 l0.length l0) (hc0 : l0.length ≤ c0) (h : palingref14_Next.f k l0 a1 = some r) :
    Calls Tryd.prog 21 #[.slice A0 l0.length c0, .int .i64 a1] w fun e w' => ∃ v0_ : Value, e = .returned (v0_) ∧ Kd.R (Kd.int .i64) 3 w' w.heap.size (fun _ => True) v0_ r ∧ Below w.heap.size w w' := by
 have hu39 := Tryd.underlying39
 have HR0 := Aside0.mk hr0
 have HC0 := Aside0.mk hc0
 clear hr0 hc0
 have HB := Aside0.mk (Below.refl w.heap.size w)
 have H : (if 0 ≤ a1 then (if a1 < (l0.length : Int) then ((palingref11_Next.f k ((rd_T39 l0 a1).f0) ((rd_T39 l0 a1).f1) ((rd_T39 l0 a1).f2) ((rd_T39 l0 a1).f3) ((rd_T39 l0 a1).f4) ((rd_T39 l0 a1).f5) ((rd_T39 l0 a1).f6) a1).bind fun t187 => (palingref14_Next.l0 k l0 t187 ([] : List Int) 0)) else (none)) else (none)) = some r := h
 clear h
 by_cases c3 : 0 ≤ a1
 rotate_left
 ·rw [if_neg c3] at H
  exact absurd H (by simp)
 rw [if_pos c3] at H
 have c3b0 : decide (0 ≤ a1) = true := decide_eq_true c3
 clear c3
 by_cases c4 : a1 < (l0.length : Int)
 rotate_left
 ·rw [if_neg c4] at H
  exact absurd H (by simp)
 rw [if_pos c4] at H
 have c4b0 : decide (a1 < (l0.length : Int)) = true := decide_eq_true c4
 clear c4
 obtain ⟨t187, A5, H⟩ := bS_ H
 have H' := Aside0.mk H
 clear H
 have p186 : 0 ≤ (a1 : Int) := of_decide_eq_true aq1
 have q186 : a1 < (l0.length : Int) := of_decide_eq_true aq1
 obtain ⟨ad186, e186, hx186_0, hx186_1, hx186_2, hx186_3, hx186_4, hx186_5, hx186_6⟩ := at_T39 HR0.out a1 p186 q186
 cases e186
 replace p186 := eq_true p186
 replace q186 := eq_true q186
 go_enter Tryd.func21, Tryd.ntmps21
 go_wp2_with (first | ((with_reducible refine gate_callee (f := 34) rfl ?_); refine goesL_ (some 13) rfl rfl Tryd.func34 (by kernel_rfl) rfl #[.agg #[.int .i64 ((rd_T39 l0 a1).f0), .int .i64 ((rd_T39 l0 a1).f1), .int .i64 ((rd_T39 l0 a1).f2), .int .i64 ((rd_T39 l0 a1).f3), .int .i64 ((rd_T39 l0 a1).f4), .int .i64 ((rd_T39 l0 a1).f5), .int .i64 ((rd_T39 l0 a1).f6)], .int .i64 a1] rfl aq8 ?_; (with_reducible refine (palingref11_Next.calls k ((rd_T39 l0 a1).f0) ((rd_T39 l0 a1).f1) ((rd_T39 l0 a1).f2) ((rd_T39 l0 a1).f3) ((rd_T39 l0 a1).f4) ((rd_T39 l0 a1).f5) ((rd_T39 l0 a1).f6) a1 t187 _ A5.out).mono ?_); rintro e w6 ⟨v188, rfl, ho0, hb⟩; refine ⟨_, rfl, ?_⟩; have HO189 := Aside0.mk (Kd.R_lower ho0 (below_size aq0)); replace HB := Aside0.mk (below_step aq0 hb); (try clear hb); (try clear hb2); (try clear hk); (try clear hi); (try clear ho0)))
 go_loopg [6, 7] k (fun kq v6 v7 w' => ∃ (x6_1 : List Int) (x7_1 : Int), v7 = .int .i64 x7_1 ∧ Aside0 (palingref14_Next.l0 kq l0 t187 x6_1 x7_1 = some r) ∧ Aside0 (kq ≤ k) ∧ Aside0 (Kd.R (Kd.int .i64) 3 w' w.heap.size (fun k_ => some k_ ≠ (v6 : Value).ownBlock) v188 t187) ∧ Aside0 (Kd.R (Kd.int .i64) 3 w' w.heap.size (fun k_ => some k_ ≠ (v188 : Value).ownBlock) v6 x6_1) ∧ Aside0 (Below w.heap.size w w'))
 case atStart => exact ⟨(([] : List Int)), (0), aq4, H', ⟨Nat.le_refl _⟩, ⟨by (with_reducible repeat (first | apply Kd.R_alloc | apply Kd.R_drewN | apply Kd.R_drew)); exact Kd.R_mono HO189.out (fun _ hk => (by simp [Value.ownBlock]))⟩, ⟨aq33⟩, ⟨aq0⟩⟩
 case round =>
  clear H'
  obtain ⟨x6_1, x7_1, rfl, HA, HK1, HO_5, HO_6, HB⟩ := hrel
  cases gk with
  | zero => exact absurd HA.out (by simp [palingref14_Next.l0])
  | succ k1 =>
   have H := HA.out
   clear HA
   simp only [palingref14_Next.l0] at H
   by_cases c7 : x7_1 < (t187.length : Int)
   rotate_left
   ·rw [if_neg c7] at H
    have c7b0 : decide (x7_1 < (t187.length : Int)) = false := decide_eq_false c7
    clear c7
    obtain rfl := Option.some.inj H
    obtain ⟨Ao16, co16, eo16⟩ := Kd.R_slice HO_5.out
    subst eo16
    go_wp2
    go_ret
    exact ⟨_, aq11, by (with_reducible repeat (first | apply Kd.R_alloc | apply Kd.R_drewN | apply Kd.R_drew)); exact Kd.R_mono HO_6.out (fun _ hk => trivial), aq0⟩
   rw [if_pos c7] at H
   have c7b0 : decide (x7_1 < (t187.length : Int)) = true := decide_eq_true c7
   clear c7
   by_cases c8 : 0 ≤ x7_1
   rotate_left
   ·rw [if_neg c8] at H
    exact absurd H (by simp)
   rw [if_pos c8] at H
   have c8b0 : decide (0 ≤ x7_1) = true := decide_eq_true c8
   clear c8
   by_cases c9 : (rd t187 x7_1) ≥ 0
   rotate_left
   ·rw [if_neg c9] at H
    have c9b0 : decide (0 ≤ (rd t187 x7_1)) = false := decide_eq_false c9
    clear c9
    have H' := Aside0.mk H
    clear H
    obtain ⟨Ao15, co15, eo15⟩ := Kd.R_slice HO_5.out
    subst eo15
    have p190 : 0 ≤ (x7_1 : Int) := of_decide_eq_true aq1
    have q190 : x7_1 < (t187.length : Int) := of_decide_eq_true aq1
    obtain ⟨ad190, e190, hx190_0⟩ := Kd.at_int (Kd.R_reads' HO_5.out).2.2 x7_1 p190 q190
    cases e190
    replace p190 := eq_true p190
    replace q190 := eq_true q190
    go_wp2
    go_roundg k1
    case measure => have := HK1.out; omega
    case rel => exact ⟨(x6_1), (wrap64 (x7_1 + 1)), aq4, H', ⟨aq48⟩, ⟨aq18⟩, ⟨aq45⟩, ⟨aq0⟩⟩
   rw [if_pos c9] at H
   have c9b0 : decide (0 ≤ (rd t187 x7_1)) = true := decide_eq_true c9
   clear c9
   by_cases c10 : (rd t187 x7_1) < (l0.length : Int)
   rotate_left
   ·rw [if_neg c10] at H
    have c10b0 : decide ((rd t187 x7_1) < (l0.length : Int)) = false := decide_eq_false c10
    clear c10
    have H' := Aside0.mk H
    clear H
    obtain ⟨Ao14, co14, eo14⟩ := Kd.R_slice HO_5.out
    subst eo14
    have p190 : 0 ≤ (x7_1 : Int) := of_decide_eq_true aq1
    have q190 : x7_1 < (t187.length : Int) := of_decide_eq_true aq1
    obtain ⟨ad190, e190, hx190_0⟩ := Kd.at_int (Kd.R_reads' HO_5.out).2.2 x7_1 p190 q190
    cases e190
    replace p190 := eq_true p190
    replace q190 := eq_true q190
    have p191 : 0 ≤ (x7_1 : Int) := of_decide_eq_true aq1
    have q191 : x7_1 < (t187.length : Int) := of_decide_eq_true aq1
    obtain ⟨ad191, e191, hx191_0⟩ := Kd.at_int (Kd.R_reads' HO_5.out).2.2 x7_1 p191 q191
    obtain rfl : ad190 = ad191 := (by injection e191)
    replace p191 := eq_true p191
    replace q191 := eq_true q191
    go_wp2
    go_roundg k1
    case measure => have := HK1.out; omega
    case rel => exact ⟨(x6_1), (wrap64 (x7_1 + 1)), aq4, H', ⟨aq48⟩, ⟨aq18⟩, ⟨aq45⟩, ⟨aq0⟩⟩
   rw [if_pos c10] at H
   have c10b0 : decide ((rd t187 x7_1) < (l0.length : Int)) = true := decide_eq_true c10
   clear c10
   by_cases c11 : x6_1.length < 17592186044416
   rotate_left
   ·rw [if_neg c11] at H
    exact absurd H (by simp)
   rw [if_pos c11] at H
   have LMc11 := Aside0.mk c11
   clear c11
   obtain ⟨y193, hy_⟩ : ∃ y_ : List Int, y_ = (x6_1 ++ [rd t187 x7_1]) := ⟨_, rfl⟩
   replace H : (palingref14_Next.l0 k1 l0 t187 y193 (wrap64 (x7_1 + 1))) = some r := aq3
   have Ny193 := Aside0.mk hy_
   clear hy_
   have H' := Aside0.mk H
   clear H
   obtain ⟨Ao12, co12, eo12⟩ := Kd.R_slice HO_5.out
   subst eo12
   have p190 : 0 ≤ (x7_1 : Int) := of_decide_eq_true aq1
   have q190 : x7_1 < (t187.length : Int) := of_decide_eq_true aq1
   obtain ⟨ad190, e190, hx190_0⟩ := Kd.at_int (Kd.R_reads' HO_5.out).2.2 x7_1 p190 q190
   cases e190
   replace p190 := eq_true p190
   replace q190 := eq_true q190
   have p191 : 0 ≤ (x7_1 : Int) := of_decide_eq_true aq1
   have q191 : x7_1 < (t187.length : Int) := of_decide_eq_true aq1
   obtain ⟨ad191, e191, hx191_0⟩ := Kd.at_int (Kd.R_reads' HO_5.out).2.2 x7_1 p191 q191
   obtain rfl : ad190 = ad191 := (by injection e191)
   replace p191 := eq_true p191
   replace q191 := eq_true q191
   have p192 : 0 ≤ (x7_1 : Int) := of_decide_eq_true aq1
   have q192 : x7_1 < (t187.length : Int) := of_decide_eq_true aq1
   obtain ⟨ad192, e192, hx192_0⟩ := Kd.at_int (Kd.R_reads' HO_5.out).2.2 x7_1 p192 q192
   obtain rfl : ad190 = ad192 := (by injection e192)
   replace p192 := eq_true p192
   replace q192 := eq_true q192
   go_wp2_with (first | ((with_reducible refine gate_builtin (b := .append) (xs := #[.tmp 34, .tmp 39]) rfl ?_); (try (refine gate_guard (by rfl) ?_; dsimp only)); at_builtin; refine Kd.R_append (Kd.int .i64) (w0 := w) w.heap.size rfl (.tmp 34) (.tmp 39) 36 3 (.int .i64 0) 8 rfl Tryd.underlying36 info3 rfl (by decide) (by omega) u6 x6_1 (rd t187 x7_1) [.int .i64 (rd t187 x7_1)] (fun k_ => some k_ ≠ (.slice (some ad190) t187.length co12 : Value).ownBlock) (fun _ => False) rfl rfl ?aP (fun _ hk => hk.elim) ?aF ?aO ?aB ?aS ?aL ?_; (case aP => exact rfl); (case aB => exact aq0); (case aF => exact (fun k_ hk => Kd.fresh' (Kd.R_lt aq18) k_ hk)); (case aO => exact aq45); (case aS => exact (below_size aq0)); (case aL => have := LMc11.out; omega); intro v194 w13 ho hb hg hat; rw [← Ny193.out] at ho; replace HO_5 := Aside0.mk (Kd.R_after (ok := (fun _ => True)) (by (with_reducible repeat (first | apply Kd.R_alloc | apply Kd.R_drewN | apply Kd.R_drew)); exact Kd.R_mono HO_5.out (fun _ hk => ⟨trivial, hk⟩)) hg hat); replace HB := Aside0.mk (hb); have HO195 := Aside0.mk (ho); clear HO_6; clear ho hb hg hat))
   go_roundg k1
   case measure => have := HK1.out; omega
   case rel => exact ⟨(y193), (wrap64 (x7_1 + 1)), aq4, H', ⟨aq48⟩, ⟨by (with_reducible repeat (first | apply Kd.R_alloc | apply Kd.R_drewN | apply Kd.R_drew)); exact Kd.R_mono HO_5.out (fun _ hk => hk.2)⟩, ⟨by (with_reducible repeat (first | apply Kd.R_alloc | apply Kd.R_drewN | apply Kd.R_drew)); exact HO195.out⟩, ⟨aq0⟩⟩
end Go.Proofs.YtianfjhhhhmjlaaDoor.PLiveFlows
